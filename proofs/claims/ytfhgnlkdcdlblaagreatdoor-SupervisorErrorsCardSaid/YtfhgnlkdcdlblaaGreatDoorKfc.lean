/- Merged out of 16 texts. -/
import Derived.Test.YtfhgnlkdcdlblaaGreatDoorKfb
/- Contract: supervisor's merger: close. -/
namespace Go.Proofs.YtfhgnlkdcdlblaaGreatDoor
open Go.Lg

/-- What the loops hold. -/
structure ClS (N : Nat) (vc : Value) (n U : Nat) (w0 : World) (z : List Int × Bool) (w : World) : Prop where
  st : Step (ob vc) w0 w
  c : IntsO 3 N w vc z.1
  len : z.1.length = n
  le : uneq z.1 ≤ U
  lt : z.2 = true → uneq z.1 < U
theorem ClS.ext {N : Nat} {vc : Value} {n U : Nat} {w0 w w' : World} {z : List Int × Bool} (h : ClS N vc n U w0 z w) (hs : Step [] w w') : ClS N vc n U w0 z w' := ⟨h.st.trans hs, own_ext h.c hs, h.len, h.le, h.lt⟩
theorem clE_eq {s : Aut} {x y : Nat} {z : List Int × Bool} {v : Int} {u t : Nat} (hu : to0 s x v = u) (ht : to0 s y v = t) : clE s x y z v = if cget z.1 u ≠ cget z.1 t then (mergeC z.1 u t, true) else z := by
  unfold clE; rw [hu, ht, Int.toNat_natCast, Int.toNat_natCast]

set_option maxHeartbeats 4000000 in
theorem mclose_ok {N bm bs : Nat} {s : Aut} {vl : Value} {cs : List CV} {vc : Value} {cl : List Int} {w : World} (h : Mg N bm bs s vl cs vc cl w) (hl : cs.length = cl.length) (hn : cl.length ≤ 4096) (hsh : Sht cs)
    (hso : s.ed.Pairwise fun x y => x.1 < y.1 ∨ (x.1 = y.1 ∧ x.2.1 < y.2.1)) (hsb : StB s cl.length) :
    Ret Tryz.prog 71 [.pointer (some ⟨bm, 0, none⟩)] w fun _ w' => Step (ob vc) w w' ∧ IntsO 3 N w' vc (closeC s (cs.map (·.c)) (cl.length * cl.length + 1) cl) := by
  refine Ret.of_W Tryz.func71 rfl Tryz.ntmps71 Tryz.results71 (by simp) ?_
  obtain ⟨l, hlE⟩ : ∃ l, cs.map (·.c) = l := ⟨_, rfl⟩
  obtain ⟨n, hnE⟩ : ∃ n, cl.length = n := ⟨_, rfl⟩
  rw [hlE, hnE]
  rw [hnE] at hn hl hsb
  obtain ⟨T, hT⟩ : ∃ T, closeC s l (n * n + 1) cl = T := ⟨_, rfl⟩
  rw [hT]
  have hU0 := uneq_le cl
  rw [hnE] at hU0
  refine W_seq <| W_region (by rfl) ?_
  refine x r_assign <| xe ?_
  refine W_block <| W_loop (α := List Int × Bool × Nat) [(2, 4), (6, 112)] (fun z => [(2, .bool z.2.1)])
    (fun z w' => Step (ob vc) w w' ∧ IntsO 3 N w' vc z.1 ∧ z.1.length = n ∧ (z.2.1 = true → closeC s l z.2.2 z.1 = T ∧ uneq z.1 < z.2.2) ∧ (z.2.1 = false → z.1 = T))
    (fun z => bif z.2.1 then uneq z.1 + 1 else 0) (by rfl) (cl, true, n * n + 1) ⟨rfl, trivial⟩ ⟨Step.refl _ _, h.c, hnE, fun _ => ⟨hT, by simp only []; omega⟩, fun e => by cases e⟩ ?_
  rintro ⟨c1, more, fu⟩ g1 w1 ⟨hs1, ho1, hl1, hm1, hm0⟩
  simp only [] at ho1 hl1 hm1 hm0
  have hM1 := h.st hs1 ho1
  refine W_seq <| W_seq <| W_region (by rfl) ?_
  refine x r_move <| xe ?_
  refine W_cond rfl (fun h9 => ?_) (fun h9 => ?_)
  rotate_left
  · refine W_exit ?_
    have e := hm0 h9
    rw [e] at ho1
    exact ⟨[], trivial, hs1, ho1⟩
  obtain ⟨hT1, hU1⟩ := hm1 h9
  obtain ⟨f', hf'⟩ : ∃ f', fu = f' + 1 := ⟨fu - 1, by omega⟩
  obtain ⟨U, hU⟩ : ∃ U, uneq c1 = U := ⟨_, rfl⟩
  obtain ⟨Pz, hP⟩ : ∃ Pz, pass s l c1 = Pz := ⟨_, rfl⟩
  rw [hf', closeC, hP] at hT1
  unfold pass at hP
  rw [hl1] at hP
  refine W_skip ?_
  refine W_block <| W_seq <| W_region (by rfl) ?_
  refine x r_assign <| xe ?_
  refine W_seq <| W_region (by rfl) ?_
  have hI1 := IntsO.ints (L := []) ho1 (by omega) (by simp)
  have hI1n : Arr [] w1.heap vc n 1 (c1.map (.int .i64)) := by rw [← hl1]; exact hI1
  refine x r_move <| x (r_nilCheck rfl) <| x (r_fieldB rfl) <| x (r_loadB hM1.B rfl rfl) <| x (r_lenA hI1n rfl) <| x r_move <| xe ?_
  -- x
  refine W_block <| W_loop (α := (List Int × Bool) × Nat) [(2, 4), (6, 8), (15, 112)] (fun z => [(2, .bool z.1.2), (15, .int .i64 z.2)])
    (fun z w' => ClS N vc n U w1 z.1 w' ∧ z.2 ≤ n ∧ (List.range' z.2 (n - z.2)).foldl (clX s l n) z.1 = Pz) (fun z => n - z.2) (by rfl) ((c1, false), 0) ⟨rfl, rfl, trivial⟩
    ⟨⟨Step.refl _ _, ho1, hl1, by simp only []; omega, fun e => by cases e⟩, Nat.zero_le _, hP⟩ ?_
  rintro ⟨z2, i⟩ g2 w2 ⟨hC2, hi, hr2⟩
  simp only [] at hC2 hi hr2
  refine W_seq <| W_region (by rfl) ?_
  refine x (r_lss rfl rfl) <| xe ?_
  refine W_seq <| W_ifn rfl (fun h16 => ?_) (fun h16 => ?_)
  · refine W_exit ?_
    rw [rng_nil (by omega)] at hr2
    have hr2' : z2 = Pz := hr2
    subst hr2'
    refine ⟨(z2.1, z2.2, f'), ?_, ⟨rfl, trivial⟩, hs1.trans' hC2.st, hC2.c, hC2.len, fun e => ?_, fun e => ?_⟩
    · show (bif z2.2 then uneq z2.1 + 1 else 0) < (bif more then uneq c1 + 1 else 0)
      rw [show more = true from h9, cond_true]
      cases hz : z2.2
      · rw [cond_false]; omega
      · rw [cond_true]; have := hC2.lt hz; omega
    · simp only [] at e ⊢
      rw [if_pos e] at hT1
      exact ⟨hT1, by have := hC2.lt e; omega⟩
    · simp only [] at e ⊢
      rw [if_neg (by rw [e]; simp)] at hT1
      exact hT1
  have hlt : i < n := by omega
  rw [rng_cons hlt, List.foldl_cons] at hr2
  obtain ⟨Z1, hZ1⟩ : ∃ Z, clX s l n z2 i = Z := ⟨_, rfl⟩
  rw [hZ1] at hr2
  unfold clX at hZ1
  refine W_skip ?_
  refine W_seq <| W_block <| W_seq <| W_region (by rfl) ?_
  refine x r_move <| x r_assign <| xe ?_
  refine W_seq <| W_region (by rfl) ?_
  refine x r_move <| x (r_add rfl rfl ⟨by omega, by omega⟩) <| x r_assign <| xe ?_
  -- y
  refine W_block <| W_loop (α := (List Int × Bool) × Nat) [(2, 2), (4, 4), (6, 8), (20, 111)] (fun z => [(2, .bool z.1.2), (4, .int .i64 z.2)])
    (fun z w' => ClS N vc n U w1 z.1 w' ∧ z.2 ≤ n ∧ (List.range' z.2 (n - z.2)).foldl (clY s l i) z.1 = Z1) (fun z => n - z.2) (by rfl) (z2, i + 1) ⟨rfl, rfl, trivial⟩ ⟨hC2, hlt, hZ1⟩ ?_
  rintro ⟨z3, j⟩ g3 w3 ⟨hC3, hj, hr3⟩
  simp only [] at hC3 hj hr3
  have hM3 := hM1.st hC3.st hC3.c
  have hl3 := hC3.len
  have hI3 := IntsO.ints (L := []) hC3.c (by omega) (by simp)
  have hI3n : Arr [] w3.heap vc n 1 (z3.1.map (.int .i64)) := by rw [← hl3]; exact hI3
  refine W_seq <| W_seq <| W_region (by rfl) ?_
  refine x r_move <| x r_move <| x (r_nilCheck rfl) <| x (r_fieldB rfl) <| x (r_loadB hM3.B rfl rfl) <| x (r_lenA hI3n rfl) <| x (r_lss rfl rfl) <| xe ?_
  refine W_ifn rfl (fun h26 => ?_) (fun h26 => ?_)
  · refine W_exit ?_
    refine W_region (by rfl) ?_
    refine x (r_add rfl rfl ⟨by omega, by omega⟩) <| x r_move <| xe ?_
    rw [rng_nil (by omega)] at hr3
    have hr3' : z3 = Z1 := hr3
    refine ⟨(z3, i + 1), by simp only []; omega, ⟨rfl, rfl, trivial⟩, hC3, hlt, ?_⟩
    simp only []
    rw [hr3']; exact hr2
  have hltj : j < n := by omega
  rw [rng_cons hltj, List.foldl_cons] at hr3
  obtain ⟨Z2, hZ2⟩ : ∃ Z, clY s l i z3 j = Z := ⟨_, rfl⟩
  rw [hZ2] at hr3
  unfold clY at hZ2
  have hi3 : i < z3.1.length := by omega
  have hj3 : j < z3.1.length := by omega
  have hci : i < cs.length := by omega
  have hcj : j < cs.length := by omega
  refine W_skip ?_
  refine W_seq <| W_block <| W_seq <| W_cut (α := Unit) [(29, 53)] (fun z => [(53, .bool (decide (cget z3.1 i < 0 ∨ cget z3.1 i ≠ cget z3.1 j)))]) (fun z w' => Step [] w3 w') (by rfl) ?_ ?_
  · refine W_draw (Step [] w3) [(0, true), (1, true), (2, true), (3, true), (4, true), (5, true), (6, true), (7, true), (8, true), (9, true), (10, true), (11, true), (12, true), (13, true), (14, true), (15, true), (16, true), (17, true), (18, true), (19, true), (20, true), (21, true), (22, true), (23, true), (24, true)] Tryz.mixed (by rfl) (by kernel_rfl) (Step.drew _ _) ?_
    refine p (fun _ => r_move) <| p (fun _ => r_nilCheck rfl) <| p (fun _ => r_fieldB rfl) <| pq (fun _ hc => r_loadB (hM3.B.ext hc) rfl rfl) <| p (fun _ => r_move) <| pic (i := i) rfl hI3 rfl rfl hi3 fun a34 h34 =>
      pq (fun _ hc => r_loadA (h34.ext hc) rfl) <| pb (fun _ => r_lss rfl rfl) (fun h36 => ?_) (fun h36 => ?_)
    · refine p (fun _ => r_move) <| ps <| ps <| ps <| ps <| ps <| ps <| ps <| ps <| ps <| ps <| ps <| ps <| ps <| ps <| ps <| p (fun _ => r_pick rfl) <| pe ?_
      exact ⟨(), ⟨congrArg Value.bool (decide_eq_true (.inl h36)).symm, trivial⟩, Step.drew _ _⟩
    refine p (fun _ => r_move) <| p (fun _ => r_move) <| p (fun _ => r_nilCheck rfl) <| p (fun _ => r_fieldB rfl) <| pq (fun _ hc => r_loadB (hM3.B.ext hc) rfl rfl) <| p (fun _ => r_move) <|
      pic (i := i) rfl hI3 rfl rfl hi3 fun a43 h43 => pq (fun _ hc => r_loadA (h43.ext hc) rfl) <| p (fun _ => r_move) <| p (fun _ => r_nilCheck rfl) <|
      p (fun _ => r_fieldB rfl) <| pq (fun _ hc => r_loadB (hM3.B.ext hc) rfl rfl) <| p (fun _ => r_move) <| pic (i := j) rfl hI3 rfl rfl hj3 fun a50 h50 => pq (fun _ hc => r_loadA (h50.ext hc) rfl) <|
      p (fun _ => r_neq rfl rfl) <| p (fun _ => r_pick rfl) <| pe ?_
    refine ⟨(), ⟨congrArg Value.bool ?_, trivial⟩, Step.drew _ _⟩
    exact decide_eq_decide.2 ⟨fun e => .inr e, fun e => e.resolve_left h36⟩
  rintro _ g4 w4 hs4
  have hC4 := hC3.ext hs4
  refine W_if rfl (fun h53 => ?_) (fun h53 => ?_)
  · rw [if_pos h53] at hZ2
    refine W_exit ?_
    refine W_region (by rfl) ?_
    refine x r_move <| x (r_add rfl rfl ⟨by omega, by omega⟩) <| x r_assign <| xe ?_
    refine ⟨(z3, j + 1), by simp only []; omega, ⟨rfl, rfl, trivial⟩, hC4, hltj, ?_⟩
    simp only []
    rw [hZ2]; exact hr3
  rw [if_neg h53] at hZ2
  have hM4 := hM3.ext hs4
  have hli := hsh _ (List.getElem_mem hci)
  have hlj := hsh _ (List.getElem_mem hcj)
  have hai := hM4.l.each _ (List.getElem_mem hci)
  have haj := hM4.l.each _ (List.getElem_mem hcj)
  rw [← hlE, lget_cv rfl hci, lget_cv rfl hcj] at hZ2
  obtain ⟨ci, hcie⟩ : ∃ c, cs[i]'hci = c := ⟨_, rfl⟩
  obtain ⟨cj, hcje⟩ : ∃ c, cs[j]'hcj = c := ⟨_, rfl⟩
  rw [hcie] at hli hai hZ2
  rw [hcje] at hlj haj hZ2
  obtain ⟨E, hE⟩ : ∃ E, meets ci.c.en cj.c.en = E := ⟨_, rfl⟩
  rw [hE] at hZ2
  unfold meets at hE
  have hEl := mrg_len (· && ·) ci.c.en cj.c.en
  rw [hE] at hEl
  refine W_skip ?_
  refine W_seq <| W_draw (Step [] w4) [(0, true), (1, true), (2, true), (3, true), (4, true), (5, true), (6, true), (7, true), (8, true), (9, true), (10, true), (11, true), (12, true), (13, true), (14, true), (15, true), (18, true), (16, false), (17, true)] Tryz.mixed (by rfl) (by kernel_rfl) (Step.drew _ _) ?_
  refine p (fun _ => r_move) <| p (fun _ => r_nilCheck rfl) <| p (fun _ => r_fieldB rfl) <| pq (fun _ hc => r_loadB (hM4.B.ext hc) rfl rfl) <| p (fun _ => r_move) <| pig (g := cvCells) (i := i) rfl cv_len hM4.l.arr rfl rfl hci fun a59 h59 => ?_
  rw [hcie] at h59
  refine p (fun _ => r_field rfl) <| pq (fun _ hc => r_loadA ((h59.fld 0 _ rfl).ext hc) rfl) <| p (fun _ => r_move) <| p (fun _ => r_nilCheck rfl) <| p (fun _ => r_fieldB rfl) <|
    pq (fun _ hc => r_loadB (hM4.B.ext hc) rfl rfl) <| p (fun _ => r_move) <| pig (g := cvCells) (i := j) rfl cv_len hM4.l.arr rfl rfl hcj fun a67 h67 => ?_
  rw [hcje] at h67
  refine p (fun _ => r_field rfl) <| pq (fun _ hc => r_loadA ((h67.fld 0 _ rfl).ext hc) rfl) <|
    p (fun _ => r_move) <| pk <| xf <| (Intersect_ok (hai.en.ext (Step.drew _ _)) (haj.en.ext (Step.drew _ _)) (by omega)).mono ?_
  rintro vE w5 ⟨hs5, hoE⟩
  rw [hE] at hoE
  have hs45 := (Step.drew [] w4).trans hs5
  refine ⟨hs45, ?_⟩
  have hcl := own_lt hC4.c
  have hEA := IntsO.ints (L := ob vc) hoE (by omega) (fun b hb => hcl b hb)
  refine p (fun _ => r_lenA hEA rfl) <| pe ?_
  have hC5 := hC4.ext hs45
  -- the events
  refine W_block <| W_loop (α := (List Int × Bool) × Nat) [(2, 2), (6, 8), (72, 111)] (fun z => [(2, .bool z.1.2), (72, .int .i64 z.2)])
    (fun z w' => ClS N vc n U w1 z.1 w' ∧ Step (ob vc) w5 w' ∧ z.2 ≤ E.length ∧ (E.drop z.2).foldl (clE s i j) z.1 = Z2) (fun z => E.length - z.2) (by rfl) (z3, 0) ⟨rfl, rfl, trivial⟩ ⟨hC5, Step.refl _ _, Nat.zero_le _, hZ2⟩ ?_
  rintro ⟨z6, k⟩ g6 w6 ⟨hC6, hs6, hk, hr6⟩
  simp only [] at hC6 hk hr6
  have hl6 := hC6.len
  refine W_seq <| W_region (by rfl) ?_
  refine x (r_lss rfl rfl) <| xe ?_
  refine W_seq <| W_ifn rfl (fun h73 => ?_) (fun h73 => ?_)
  · refine W_exit ?_
    rw [List.drop_of_length_le (by omega)] at hr6
    have hr6' : z6 = Z2 := hr6
    refine W_region (by rfl) ?_
    refine x r_move <| x (r_add rfl rfl ⟨by omega, by omega⟩) <| x r_assign <| xe ?_
    refine ⟨(z6, j + 1), by simp only []; omega, ⟨rfl, rfl, trivial⟩, hC6, hltj, ?_⟩
    simp only []
    rw [hr6']; exact hr3
  have hltk : k < E.length := by omega
  rw [List.drop_eq_getElem_cons hltk, List.foldl_cons, cget_eq hltk] at hr6
  obtain ⟨v, hv⟩ : ∃ v, cget E k = v := ⟨_, rfl⟩
  rw [hv] at hr6
  have hEA6 := hEA.st hs6
  have hM6 := hM1.st hC6.st hC6.c
  have hI6 := IntsO.ints (L := []) hC6.c (by omega) (by simp)
  have hui := to0_lt hsb (by omega) i v
  have huj := to0_lt hsb (by omega) j v
  obtain ⟨u, hu⟩ : ∃ u : Nat, to0 s i v = u := ⟨(to0 s i v).toNat, by omega⟩
  obtain ⟨t, ht⟩ : ∃ t : Nat, to0 s j v = t := ⟨(to0 s j v).toNat, by omega⟩
  rw [clE_eq hu ht] at hr6
  have hun : u < z6.1.length := by omega
  have htn : t < z6.1.length := by omega
  refine W_skip ?_
  refine W_seq <| W_block <| W_seq <| W_region (by rfl) ?_
  refine xic hEA6 rfl rfl hltk fun a74 h74 => ?_
  rw [hv] at h74
  refine x (r_loadA h74 rfl) <| x r_assign <| xe ?_
  refine W_seq <| W_draw (Step [] w6) [(0, true), (1, true), (2, true), (3, true), (4, true), (5, true), (6, true), (7, true), (8, true), (9, true), (10, true), (11, true), (12, true), (13, true), (14, true), (15, true), (16, true), (17, true)] Tryz.mixed (by rfl) (by kernel_rfl) (Step.drew _ _) ?_
  refine p (fun _ => r_move) <| p (fun _ => r_nilCheck rfl) <| p (fun _ => r_fieldB rfl) <| pq (fun _ hc => r_loadB (hM6.B.ext hc) rfl rfl) <| p (fun _ => r_move) <| p (fun _ => r_move) <|
    p (fun _ => r_build ⟨rfl, rfl, trivial⟩) <| pq (fun _ hc => r_lookT (hM6.m.ext hc) hso hu rfl rfl) <| p (fun _ => r_move) <| p (fun _ => r_nilCheck rfl) <| p (fun _ => r_fieldB rfl) <|
    pq (fun _ hc => r_loadB (hM6.B.ext hc) rfl rfl) <| p (fun _ => r_move) <| p (fun _ => r_move) <| p (fun _ => r_build ⟨rfl, rfl, trivial⟩) <| pq (fun _ hc => r_lookT (hM6.m.ext hc) hso ht rfl rfl) <|
    p (fun _ => r_assign) <| p (fun _ => r_assign) <| pe ?_
  have hd := Step.drew [] w6
  have hC7 := hC6.ext hd
  have hM7 := hM6.ext hd
  have hs7 := hs6.trans hd
  have hI7 := hI6.ext hd
  refine W_seq <| W_draw (Step [] { w6 with drawn := w6.drawn + 1 }) [(0, true), (1, true), (2, true), (3, true), (4, true), (5, true), (6, true), (7, true), (8, true), (9, true), (10, true), (11, true), (12, true), (13, true), (14, true)] Tryz.mixed (by rfl) (by kernel_rfl) (Step.drew _ _) ?_
  refine p (fun _ => r_move) <| p (fun _ => r_nilCheck rfl) <| p (fun _ => r_fieldB rfl) <| pq (fun _ hc => r_loadB (hM7.B.ext hc) rfl rfl) <| p (fun _ => r_move) <| pic (i := u) rfl hI7 rfl rfl hun fun a97 h97 =>
    pq (fun _ hc => r_loadA (h97.ext hc) rfl) <| p (fun _ => r_move) <| p (fun _ => r_nilCheck rfl) <| p (fun _ => r_fieldB rfl) <| pq (fun _ hc => r_loadB (hM7.B.ext hc) rfl rfl) <|
    p (fun _ => r_move) <| pic (i := t) rfl hI7 rfl rfl htn fun a104 h104 => pq (fun _ hc => r_loadA (h104.ext hc) rfl) <| p (fun _ => r_neq rfl rfl) <|
    pe ?_
  have hd7 := Step.drew [] { w6 with drawn := w6.drawn + 1 }
  have hC8 := hC7.ext hd7
  have hM8 := hM7.ext hd7
  have hs8 := hs7.trans hd7
  refine W_ifn rfl (fun h106 => ?_) (fun h106 => ?_)
  · rw [if_neg h106] at hr6
    refine W_skip ?_
    refine W_region (by rfl) ?_
    refine x (r_add rfl rfl ⟨by omega, by omega⟩) <| x r_move <| xe ?_
    exact ⟨(z6, k + 1), by simp only []; omega, ⟨rfl, rfl, trivial⟩, hC8, hs8, hltk, hr6⟩
  rw [if_pos h106] at hr6
  have hdec := uneq_merge_lt hun htn h106
  have hle6 := hC6.le
  refine W_seq <| W_region (by rfl) ?_
  refine x r_move <| x r_move <| x r_move <| xl rfl <| xf <| (mmerge_ok hM8 hun htn (by omega)).mono ?_
  rintro r9 w9 ⟨hs9, ho9⟩
  refine xe ?_
  refine W_region (by rfl) ?_
  refine x r_assign <| xe ?_
  refine W_region (by rfl) ?_
  refine x (r_add rfl rfl ⟨by omega, by omega⟩) <| x r_move <| xe ?_
  exact ⟨((mergeC z6.1 u t, true), k + 1), by simp only []; omega, ⟨rfl, rfl, trivial⟩, ⟨hC8.st.trans' hs9, ho9, by simp only [mergeC_len]; exact hl6, by simp only []; omega, fun _ => by simp only []; omega⟩, hs8.trans' hs9, hltk, hr6⟩
end Go.Proofs.YtfhgnlkdcdlblaaGreatDoor
/- Contract: supervisor.classes. -/
namespace Go.Lg
section
variable {P : Program} {f : Fr} {w : World} {d : Option Nat} {ty : Nat} {ps : String} {af : Array Edge} {gd : Option (Nat × Bool)} {κ : Type} [DecidableEq κ]
theorem r_lookup1S {t kt et : Nat} {z : Value} [hm : Mp P t kt et z] {enc : κ → Value} [hk : Key P kt enc] {x y : Operand} {b : Nat} {m : List (κ × Value)} {k : κ} {u : Value} (h : MapB enc w.heap b m) (hx : ev f x = .map (some b)) (hy : ev f y = enc k) (hg : mget m k = some u) :
    (execOp (ev f) ⟨d, .lookup t x y false, ty, ps, af, gd⟩).run P w = .ok (.value u) w := by
  rw [r_lookup1 h hx hy, hg]
end
end Go.Lg
namespace Go.Proofs.YtfhgnlkdcdlblaaGreatDoor
open Go.Lg

/-- The map of the classes met so far. -/
structure NmOk (m : List (Int × Value)) (K : List Int) : Prop where
  g : ∀ c, mget m c = if c ∈ K then some (.int .i64 ((K.idxOf c : Int) - 1)) else none
  len : m.length = K.length
theorem NmOk.add {m : List (Int × Value)} {K : List Int} (h : NmOk m K) {c : Int} (hc : c ∉ K) : NmOk (mput m c (.int .i64 ((K.length : Int) - 1))) (K ++ [c]) := by
  refine ⟨fun d => ?_, ?_⟩
  · rw [mget_mput, h.g d]
    by_cases e : c = d
    · subst e
      rw [if_pos rfl, if_pos (by simp), List.idxOf_append, if_neg hc]; simp
    · rw [if_neg e]
      by_cases hm : d ∈ K
      · rw [if_pos hm, if_pos (by simp [hm]), List.idxOf_append, if_pos hm]
      · rw [if_neg hm, if_neg (by simp [hm, Ne.symm e])]
  · rw [mput_length_new (by rw [h.g c, if_neg hc]), h.len]; simp
theorem bools_flat (l : List Bool) : l.flatMap (fun b => [Value.bool b]) = l.map .bool := by induction l with | nil => rfl | cons a l ih => simp [ih]
theorem occs_len (n : Nat) (q : List (List Int)) : (occs n q).length = n := by
  unfold occs
  have : ∀ (q : List (List Int)) (o : List Bool), (q.foldl (fun o q => o.set (py q).toNat true) o).length = o.length := by
    intro q
    induction q with
    | nil => intro o; rfl
    | cons a q ih => intro o; rw [List.foldl_cons, ih]; simp
  rw [this]; simp
theorem numS_len (z : List Int × List Int) (c : Int) : (numS z c).2.length = z.2.length + 1 := by unfold numS; split <;> simp
theorem nums_len : ∀ (l : List Int) (z : List Int × List Int), (l.foldl numS z).2.length = z.2.length + l.length
  | [], z => by simp
  | c :: l, z => by rw [List.foldl_cons, nums_len l, numS_len]; simp; omega
theorem set_next {l : List Int} {n k : Nat} {u : Int} (hl : l.length = k) (hk : k < n) : (l ++ List.replicate (n - k) 0).set k u = (l ++ [u]) ++ List.replicate (n - (k + 1)) 0 := by
  rw [List.set_append_right _ _ (by omega), hl, Nat.sub_self, show n - k = (n - (k + 1)) + 1 by omega, List.replicate_succ, List.set_cons_zero, List.append_assoc]; rfl

theorem exD {α : Type} (a : α) : ∃ b, a = b := ⟨a, rfl⟩
theorem closeC_len (aS : Aut) (l : List Ctl) : ∀ (f : Nat) (c : List Int), (closeC aS l f c).length = c.length := by
  have e1 : ∀ (z : List Int × Bool) (v : Int) (x y : Nat), (clE aS x y z v).1.length = z.1.length := fun z v x y => by unfold clE; split <;> simp [mergeC_len]
  have e2 : ∀ (E : List Int) (x y : Nat) (z : List Int × Bool), (E.foldl (clE aS x y) z).1.length = z.1.length := by
    intro E x y
    induction E with
    | nil => intro z; rfl
    | cons a E ih => intro z; rw [List.foldl_cons, ih, e1]
  have e3 : ∀ (x : Nat) (z : List Int × Bool) (y : Nat), (clY aS l x z y).1.length = z.1.length := fun x z y => by unfold clY; split; rfl; exact e2 _ _ _ _
  have e4 : ∀ (ys : List Nat) (x : Nat) (z : List Int × Bool), (ys.foldl (clY aS l x) z).1.length = z.1.length := by
    intro ys x
    induction ys with
    | nil => intro z; rfl
    | cons a ys ih => intro z; rw [List.foldl_cons, ih, e3]
  have e5 : ∀ (xs : List Nat) (m : Nat) (z : List Int × Bool), (xs.foldl (clX aS l m) z).1.length = z.1.length := by
    intro xs m
    induction xs with
    | nil => intro z; rfl
    | cons a xs ih => intro z; rw [List.foldl_cons, ih]; unfold clX; exact e4 _ _ _
  have e6 : ∀ (f : Nat) (c : List Int), (closeC aS l f c).length = c.length := by
    intro f
    induction f with
    | zero => intro c; rfl
    | succ f ih =>
      intro c
      rw [closeC]
      have : (pass aS l c).1.length = c.length := by unfold pass; exact e5 _ _ _
      split
      · rw [ih, this]
      · exact this
  exact e6

set_option maxHeartbeats 8000000 in
theorem classes_ok {L : List Nat} {w : World} {pva pvm pve sa sm se vt : Value} {aP aS : Aut} {qs : List TV} (hp : AutA L w.heap pva pvm pve aP) (hs : AutA L w.heap sa sm se aS) (hpo : Okay aP) (hso : Okay aS)
    (ht : Tups L w.heap vt qs) (hq : ∀ q ∈ qs, Vt [aP, aS] q.2) (hqn : qs.length ≤ 4096) :
    Ret Tryz.prog 47 [.agg #[pva, .int .i64 aP.st, pvm, pve], .agg #[sa, .int .i64 aS.st, sm, se], vt] w fun r w' => Step [] w w' ∧ ∃ vo vl, r = .tuple #[vo, vl] ∧
      IntsO 3 w.heap.size w' vo (clsOf aP aS (qs.map (·.2))) ∧ CtlF w.heap.size w'.heap vl (ctls aP aS (qs.map (·.2))) ∧ (∀ c ∈ ctls aP aS (qs.map (·.2)), c.en.length ≤ 1000000 ∧ c.dis.length ≤ 1000000) := by
  obtain ⟨n, hn⟩ : ∃ n : Nat, aS.st = n := ⟨aS.st.toNat, by have := hso.st0; omega⟩
  have hn4 : n ≤ 4096 := by have := hso.st1; omega
  have hnn : aS.st.toNat = n := by omega
  have hsb : StB aS n := fun e he => by have := hso.ed e he; omega
  refine Ret.of_W Tryz.func47 rfl Tryz.ntmps47 Tryz.results47 (by simp) ?_
  refine W_seq <| W_region (by rfl) ?_
  refine xl rfl <| o_box (us := [pva, .int .i64 aP.st, pvm, pve]) rfl fun b3 w1 hs1 hb3 hB3 => xl rfl <| o_box (us := [sa, .int .i64 aS.st, sm, se]) rfl fun b4 w2 hs2 hb4 hB4 => x r_assign <| x r_assign <| xe ?_
  have hs12 := hs1.trans hs2
  refine W_seq <| W_region (by rfl) ?_
  refine x (r_loadsB (hB3.ext hs2) rfl rfl) <| x (r_loadsB hB4 rfl rfl) <| x r_move <| xl rfl <| xf <| (controls_ok (hp.ext hs12) (hs.ext hs12) hpo hso (ht.ext hs12) hq hqn).mono ?_
  rintro r3 w3 ⟨hs3, vl, bo, rfl, hCF, hCb, hbo, hBo⟩
  refine x r_move <| x (r_extract rfl rfl) <| x (r_extract rfl rfl) <| x r_assign <| x r_assign <| xe ?_
  obtain ⟨l, hlE⟩ := exD (ctls aP aS (qs.map (·.2)))
  obtain ⟨os, hos⟩ := exD (occs aS.st.toNat (qs.map (·.2)))
  have hosl : os.length = n := by rw [← hos, occs_len, hnn]
  have hgoal : clsOf aP aS (qs.map (·.2)) = nums (clsA aS l (cls0 os)) := by unfold clsOf; rw [hlE, hos]
  rw [hlE] at hCF hCb
  rw [hos] at hBo
  rw [hgoal, hlE]
  rw [hnn]
  have hCF0 := hCF
  obtain ⟨cs, hcs, hCs⟩ := hCF
  have hcsl : cs.length = n := by
    have : l.length = n := by
      rw [← hlE]; unfold ctls
      have : ∀ (q : List (List Int)) (o : List Ctl), (q.foldl (ctlQ aP aS) o).length = o.length := by
        intro q
        induction q with
        | nil => intro o; rfl
        | cons a q ih => intro o; rw [List.foldl_cons, ih]; simp [ctlQ]
      rw [this]; simp [hnn]
    rw [← hcs] at this; simpa using this
  have hsh : Sht cs := fun c hc => hCb c.c (by rw [← hcs]; exact List.mem_map_of_mem hc)
  have hs23 := hs12.trans hs3
  have hB43 := hB4.ext hs3
  refine W_seq <| W_region (by rfl) ?_
  refine x r_move <| x (r_loadsB hB43 rfl rfl) <| xl rfl <| xf <| (steps_ok (hs.ed.ext hs23)).mono ?_
  rintro r4 w4 ⟨hs4, bs, rfl, hbs, hms⟩
  refine x (r_build ⟨(hCs [] (by simp)).arr.cells, rfl, trivial⟩) <| xl rfl <| o_box (us := [.slice none 0 0, vl, .map (some bs)]) rfl fun bm w5 hs5 hbm hBm =>
    x r_assign <| xe ?_
  have hz1 := hs1.size
  have hz2 := hs2.size
  have hz3 := hs3.size
  have hz4 := hs4.size
  have hz5 := hs5.size
  have hlbs := hms.lt
  have hlbm := hBm.lt
  have hlbo := hBo.lt
  have hs35 := hs4.trans hs5
  have hW5 : Step [] w w5 := hs23.trans hs35
  have hms5 := hms.ext hs5
  -- the merger, whatever its classes
  have mk : ∀ (vc : Value) (cl : List Int) (w' : World), Step [bm] w5 w' → Blk w'.heap bm 132 [vc, vl, .map (some bs)] → IntsO 3 w5.heap.size w' vc cl → Mg w5.heap.size bm bs aS vl cs vc cl w' := by
    intro vc cl w' hst hB hc
    have hge := own_ge hc
    refine ⟨hB, hc, ?_, hms5.step hst (by simp; omega), own_notin hc hlbm, own_notin hc (by omega)⟩
    have h1 : Ctls (bm :: ob vc) w3.heap vl cs := (hCs [] (by simp)).up (fun b hb => .inr (by
      rcases List.mem_cons.1 hb with rfl | hb
      · omega
      · have := (hge b hb).1; omega))
    exact ((h1.ext hs35).st (hst.mono (by simp))).up (fun b hb => .inl (List.mem_cons_of_mem _ hb))
  have hoA : Arr [bm] w5.heap (.slice (some ⟨bo, 0, none⟩) n n) os.length 1 (os.flatMap (fun b => [Value.bool b])) := by
    rw [bools_flat, hosl]
    exact (hBo.ext hs35).arr (by simp; omega) (by simp [hosl]) (by omega) (Nat.le_refl _)
  -- the classes at the start
  refine W_cut (α := Value) [(11, 12), (34, 53)] (fun z => []) (fun z w' => Step [bm] w5 w' ∧ Blk w'.heap bm 132 [z, vl, .map (some bs)] ∧ IntsO 3 w5.heap.size w' z (cls0 os)) (by rfl) ?_ ?_
  · refine W_seq <| W_region (by rfl) ?_
    refine x r_move <| x (r_lenA hoA rfl) <| x r_move <| xe ?_
    refine W_block <| W_loop (α := Nat × Value) [(11, 12), (36, 53)] (fun z => [(36, .int .i64 z.1)])
      (fun z w' => z.1 ≤ os.length ∧ Step [bm] w5 w' ∧ Blk w'.heap bm 132 [z.2, vl, .map (some bs)] ∧ IntsO 3 w5.heap.size w' z.2 ((List.range' 0 z.1).map fun i => if os.getD i false = true then (i : Int) else -1))
      (fun z => os.length - z.1) (by rfl) (0, .slice none 0 0) ⟨rfl, trivial⟩ ⟨Nat.zero_le _, Step.refl _ _, hBm, own_nil _ _ _ _⟩ ?_
    rintro ⟨k, vc⟩ g w6 ⟨hk, hs6, hB6, ho6⟩
    simp only [] at hk hB6 ho6
    have hz6 := hs6.size
    refine W_seq <| W_region (by rfl) ?_
    refine x (r_lss rfl rfl) <| xe ?_
    refine W_seq <| W_ifn rfl (fun h37 => ?_) (fun h37 => ?_)
    · refine W_exit ?_
      have hke : k = os.length := by omega
      rw [hke] at ho6
      exact ⟨vc, trivial, hs6, hB6, ho6⟩
    have hlt : k < os.length := by omega
    obtain ⟨is, his⟩ := exD (os[k]'hlt)
    have hg : os.getD k false = is := by rw [← his]; simp [List.getD, hlt]
    obtain ⟨q, hq'⟩ := exD ((if is = true then (k : Int) else -1))
    have hoA6 := hoA.st hs6
    refine W_skip ?_
    refine W_seq <| W_block <| W_seq <| W_region (by rfl) ?_
    refine x r_move <| xig (g := fun b => [Value.bool b]) (fun _ => rfl) hoA6 rfl rfl hlt fun a39 h39 => ?_
    rw [his] at h39
    refine x (r_loadA h39 rfl) <| x r_assign <| x r_assign <| xe ?_
    refine W_cut (α := Unit) [(11, 11), (41, 42)] (fun z => [(11, .int .i64 q)]) (fun z w' => w' = w6) (by rfl) ?_ ?_
    · refine W_seq <| W_region (by rfl) ?_
      refine x r_move <| x (r_not rfl) <| xe ?_
      refine W_cond rfl (fun h42 => ?_) (fun h42 => ?_)
      · refine W_region (by rfl) ?_
        refine x r_assign <| xe ?_
        have e : is = false := by simpa using h42
        exact ⟨(), ⟨congrArg (Value.int .i64) (by rw [← hq', if_neg (by rw [e]; simp)]), trivial⟩, rfl⟩
      · refine W_skip ?_
        have e : is = true := by simpa using h42
        exact ⟨(), ⟨congrArg (Value.int .i64) (by rw [← hq', if_pos e]), trivial⟩, rfl⟩
    rintro _ g2 w7 rfl
    refine W_region (by rfl) ?_
    refine x r_move <| x r_move <| x (r_nilCheck rfl) <| x (r_fieldB rfl) <| x (r_loadB hB6 rfl rfl) <| x r_move <| xl rfl <| o_lits (us := [[.int .i64 q]]) rfl rfl (by decide) (by simp) ⟨rfl, rfl, trivial⟩ fun b49 w8 hs8 hb49 hB49 => ?_
    have ho8 := own_ext ho6 hs8
    have hz8 := hs8.size
    have hlenr : ((List.range' 0 k).map fun i => if os.getD i false = true then (i : Int) else -1).length = k := by simp
    refine xl rfl <| o_app (news := [.int .i64 q]) (L := []) ho8 rfl rfl rfl (hB49.at (by simp)) (by simp [Value.oneCell']) (by omega) (by omega) fun v9 w9 ho9 hs9 hn9 => ?_
    have ho9' := IntsO.snoc ho9
    have hB9 := (hB6.ext hs8).step hs9 (own_notin ho6 hlbm)
    refine x (r_nilCheck rfl) <| x (r_fieldB rfl) <| xl rfl <| o_store hB9 rfl rfl (by simp) (IntsO.ints (L := []) ho9' (by simp; omega) (by simp)).one fun w10 hs10 hB10 => xe ?_
    refine W_region (by rfl) ?_
    refine x (r_add rfl rfl ⟨by omega, by omega⟩) <| x r_move <| xe ?_
    have hge6 := own_ge ho6
    refine ⟨(k + 1, v9), by simp only []; omega, ⟨rfl, trivial⟩, hlt, ((hs6.trans hs8).then hs9 (fun b hb => .inr (hge6 b hb).1)).trans' hs10, hB10, ?_⟩
    simp only []
    rw [List.range'_1_concat, List.map_append, List.map_singleton, Nat.zero_add, hg, hq']
    exact own_step ho9' hs10 (fun b hb => by have := (own_ge ho9' b hb).1; simp; omega)
  rintro vc0 g5 w6 ⟨hs6, hB6, ho6⟩
  have hc0l : (cls0 os).length = n := by simp [cls0, hosl]
  obtain ⟨CL, hCL⟩ := exD (clsA aS l (cls0 os))
  rw [hCL]
  unfold clsA at hCL
  rw [hc0l] at hCL
  generalize cls0 os = c0 at hc0l ho6 hCL
  -- merging
  refine W_cut (α := Value) [(13, 15), (54, 126)] (fun z => []) (fun z w' => Step [bm] w5 w' ∧ Blk w'.heap bm 132 [z, vl, .map (some bs)] ∧ IntsO 3 w5.heap.size w' z CL ∧ CL.length = n) (by rfl) ?_ ?_
  · have hI6 := IntsO.ints (L := []) ho6 (by omega) (by simp)
    have hI6n : Arr [] w6.heap vc0 n 1 (c0.map (.int .i64)) := by rw [← hc0l]; exact hI6
    refine W_seq <| W_region (by rfl) ?_
    refine x r_move <| x (r_nilCheck rfl) <| x (r_fieldB rfl) <| x (r_loadB hB6 rfl rfl) <| x (r_lenA hI6n rfl) <| x r_move <| xe ?_
    refine W_block <| W_loop (α := Nat × Value × List Int) [(13, 15), (59, 126)] (fun z => [(59, .int .i64 z.1)])
      (fun z w' => z.1 ≤ n ∧ Step [bm] w5 w' ∧ Blk w'.heap bm 132 [z.2.1, vl, .map (some bs)] ∧ IntsO 3 w5.heap.size w' z.2.1 z.2.2 ∧ z.2.2.length = n ∧ (List.range' z.1 (n - z.1)).foldl (tryX aS l n) z.2.2 = CL)
      (fun z => n - z.1) (by rfl) (0, vc0, c0) ⟨rfl, trivial⟩ ⟨Nat.zero_le _, hs6, hB6, ho6, hc0l, hCL⟩ ?_
    rintro ⟨i, vc, cl⟩ g7 w7 ⟨hi, hs7, hB7, ho7, hl7, hr7⟩
    simp only [] at hi hB7 ho7 hl7 hr7
    refine W_seq <| W_region (by rfl) ?_
    refine x (r_lss rfl rfl) <| xe ?_
    refine W_seq <| W_ifn rfl (fun h60 => ?_) (fun h60 => ?_)
    · refine W_exit ?_
      rw [rng_nil (by omega)] at hr7
      have hr7' : cl = CL := hr7
      rw [hr7'] at ho7 hl7
      exact ⟨vc, trivial, hs7, hB7, ho7, hl7⟩
    have hlt : i < n := by omega
    rw [rng_cons hlt, List.foldl_cons] at hr7
    obtain ⟨C1, hC1⟩ := exD (tryX aS l n cl i)
    rw [hC1] at hr7
    unfold tryX at hC1
    refine W_skip ?_
    refine W_seq <| W_block <| W_seq <| W_region (by rfl) ?_
    refine x r_move <| x r_assign <| xe ?_
    refine W_seq <| W_region (by rfl) ?_
    refine x r_move <| x (r_add rfl rfl ⟨by omega, by omega⟩) <| x r_assign <| xe ?_
    refine W_block <| W_loop (α := Nat × Value × List Int) [(14, 15), (64, 125)] (fun z => [(14, .int .i64 z.1)])
      (fun z w' => z.1 ≤ n ∧ Step [bm] w5 w' ∧ Blk w'.heap bm 132 [z.2.1, vl, .map (some bs)] ∧ IntsO 3 w5.heap.size w' z.2.1 z.2.2 ∧ z.2.2.length = n ∧ (List.range' z.1 (n - z.1)).foldl (fun c y => tryC aS l c i y) z.2.2 = C1)
      (fun z => n - z.1) (by rfl) (i + 1, vc, cl) ⟨rfl, trivial⟩ ⟨hlt, hs7, hB7, ho7, hl7, hC1⟩ ?_
    clear hB7 ho7 hl7 hC1 hs7
    rintro ⟨j, vd, cm⟩ g8 w8 ⟨hj, hs8, hB8, ho8, hl8, hr8⟩
    simp only [] at hj hB8 ho8 hl8 hr8
    have hM8 := mk vd cm w8 hs8 hB8 ho8
    have hI8 := IntsO.ints (L := []) ho8 (by omega) (by simp)
    have hI8n : Arr [] w8.heap vd n 1 (cm.map (.int .i64)) := by rw [← hl8]; exact hI8
    refine W_seq <| W_seq <| W_region (by rfl) ?_
    refine x r_move <| x r_move <| x (r_nilCheck rfl) <| x (r_fieldB rfl) <| x (r_loadB hB8 rfl rfl) <| x (r_lenA hI8n rfl) <| x (r_lss rfl rfl) <|
      xe ?_
    refine W_ifn rfl (fun h70 => ?_) (fun h70 => ?_)
    · refine W_exit ?_
      refine W_region (by rfl) ?_
      refine x (r_add rfl rfl ⟨by omega, by omega⟩) <| x r_move <| xe ?_
      rw [rng_nil (by omega)] at hr8
      have hr8' : cm = C1 := hr8
      refine ⟨(i + 1, vd, cm), by simp only []; omega, ⟨rfl, trivial⟩, hlt, hs8, hB8, ho8, hl8, ?_⟩
      simp only []
      rw [hr8']; exact hr7
    have hltj : j < n := by omega
    rw [rng_cons hltj, List.foldl_cons] at hr8
    obtain ⟨C2, hC2⟩ := exD (tryC aS l cm i j)
    rw [hC2] at hr8
    unfold tryC at hC2
    have hi8 : i < cm.length := by omega
    have hj8 : j < cm.length := by omega
    refine W_skip ?_
    refine W_seq <| W_block <| W_seq <| W_cut (α := Unit) [(73, 107)] (fun z => [(107, .bool (decide (cget cm i < 0 ∨ cget cm j < 0 ∨ cget cm i = cget cm j)))]) (fun z w' => Step [] w8 w') (by rfl) ?_ ?_
    · refine W_draw (Step [] w8) [(0, true), (1, true), (2, true), (3, true), (4, true), (5, true), (6, true), (7, true), (8, true), (9, true), (10, true), (11, true), (12, true), (13, true), (14, true), (15, true), (16, true), (17, true), (18, true), (19, true), (20, true), (21, true), (22, true), (23, true), (24, true), (25, true), (26, true), (27, true), (28, true), (29, true), (30, true), (31, true), (32, true), (33, true), (34, true)] Tryz.mixed (by rfl) (by kernel_rfl) (Step.drew _ _) ?_
      refine p (fun _ => r_move) <| p (fun _ => r_nilCheck rfl) <| p (fun _ => r_fieldB rfl) <| pq (fun _ hc => r_loadB (hB8.ext hc) rfl rfl) <|
        p (fun _ => r_move) <| pic (i := i) rfl hI8 rfl rfl hi8 fun a78 h78 => pq (fun _ hc => r_loadA (h78.ext hc) rfl) <| pb (fun _ => r_lss rfl rfl) (fun h80 => ?_) (fun h80 => ?_)
      · refine p (fun _ => r_move) <| ps <| ps <| ps <| ps <| ps <| ps <| ps <| ps <| p (fun _ => r_pick rfl) <| p (fun _ => r_move) <| ps <| ps <| ps <| ps <| ps <| ps <| ps <| ps <| ps <| ps <| ps <| ps <| ps <| ps <| ps <| p (fun _ => r_pick rfl) <|
          pe ?_
        exact ⟨(), ⟨congrArg Value.bool (decide_eq_true (.inl h80)).symm, trivial⟩, Step.drew _ _⟩
      refine p (fun _ => r_move) <| p (fun _ => r_move) <| p (fun _ => r_nilCheck rfl) <| p (fun _ => r_fieldB rfl) <| pq (fun _ hc => r_loadB (hB8.ext hc) rfl rfl) <|
        p (fun _ => r_move) <| pic (i := j) rfl hI8 rfl rfl hj8 fun a87 h87 => pq (fun _ hc => r_loadA (h87.ext hc) rfl) <| pb (fun _ => r_lss rfl rfl) (fun h89 => ?_) (fun h89 => ?_)
      · refine p (fun _ => r_pick rfl) <| p (fun _ => r_move) <| ps <| ps <| ps <| ps <| ps <| ps <| ps <| ps <| ps <| ps <| ps <| ps <| ps <| ps <| ps <| p (fun _ => r_pick rfl) <|
          pe ?_
        exact ⟨(), ⟨congrArg Value.bool (decide_eq_true (.inr (.inl h89))).symm, trivial⟩, Step.drew _ _⟩
      refine p (fun _ => r_pick rfl) <| p (fun _ => r_move) <| p (fun _ => r_move) <| p (fun _ => r_nilCheck rfl) <| p (fun _ => r_fieldB rfl) <| pq (fun _ hc => r_loadB (hB8.ext hc) rfl rfl) <|
        p (fun _ => r_move) <| pic (i := i) rfl hI8 rfl rfl hi8 fun a97 h97 => pq (fun _ hc => r_loadA (h97.ext hc) rfl) <| p (fun _ => r_move) <| p (fun _ => r_nilCheck rfl) <|
        p (fun _ => r_fieldB rfl) <| pq (fun _ hc => r_loadB (hB8.ext hc) rfl rfl) <| p (fun _ => r_move) <| pic (i := j) rfl hI8 rfl rfl hj8 fun a104 h104 =>
        pq (fun _ hc => r_loadA (h104.ext hc) rfl) <| p (fun _ => r_eql rfl rfl) <| p (fun _ => r_pick rfl) <| pe ?_
      refine ⟨(), ⟨congrArg Value.bool ?_, trivial⟩, Step.drew _ _⟩
      exact decide_eq_decide.2 ⟨fun e => .inr (.inr e), fun e => (e.resolve_left h80).resolve_left h89⟩
    rintro _ g9 w9 hs9
    have hB9 := hB8.ext hs9
    have ho9 := own_ext ho8 hs9
    have hs89 := hs8.trans hs9
    refine W_if rfl (fun h107 => ?_) (fun h107 => ?_)
    · rw [if_pos h107] at hC2
      refine W_exit ?_
      refine W_region (by rfl) ?_
      refine x r_move <| x (r_add rfl rfl ⟨by omega, by omega⟩) <| x r_assign <| xe ?_
      refine ⟨(j + 1, vd, cm), by simp only []; omega, ⟨rfl, trivial⟩, hltj, hs89, hB9, ho9, hl8, ?_⟩
      simp only []
      rw [hC2]; exact hr8
    rw [if_neg h107] at hC2
    simp only [] at hC2
    rw [hl8] at hC2
    have hml : (mergeC cm i j).length = n := by rw [mergeC_len]; exact hl8
    obtain ⟨D, hD⟩ := exD (closeC aS l (n * n + 1) (mergeC cm i j))
    have hDl : D.length = n := by rw [← hD, closeC_len, hml]
    rw [hD] at hC2
    have hM9 := hM8.ext hs9
    have hI9 := hI8.ext hs9
    refine W_skip ?_
    refine W_seq <| W_region (by rfl) ?_
    refine x r_move <| x (r_nilCheck rfl) <| x (r_fieldB rfl) <| x (r_loadB hB9 rfl rfl) <| xl rfl <| xf <| (clone_ok hI9).mono ?_
    rintro vb w10 ⟨hs10, hob⟩
    refine x r_assign <| xe ?_
    have hM10 := hM9.ext hs10
    have hlt9 := own_lt ho9
    have hgeb := own_ge hob
    have hsep : ∀ b ∈ ob vb, b ∉ ob vd := fun b hb hb' => by have := hlt9 b hb'; have := (hgeb b hb).1; omega
    refine W_seq <| W_region (by rfl) ?_
    refine x r_move <| x r_move <| x r_move <| xl rfl <| xf <| (mmerge_ok hM10 hi8 hj8 (by omega)).mono ?_
    rintro r11 w11 ⟨hs11, ho11⟩
    refine xe ?_
    have hM11 := hM10.st hs11 ho11
    refine W_seq <| W_region (by rfl) ?_
    refine x r_move <| xl rfl <| xf <| (mclose_ok hM11 (by omega) (by omega) hsh hso.edi (by rw [hml]; exact hsb)).mono ?_
    rintro r12 w12 ⟨hs12', ho12⟩
    refine xe ?_
    rw [hcs, hml, hD] at ho12
    have hM12 := hM11.st hs12' ho12
    have hmc := mcons_ok hM12 (by omega) (by omega) hsh
    rw [hcs] at hmc
    refine W_seq <| W_region (by rfl) ?_
    refine x r_move <| xl rfl <| xf <| hmc.mono ?_
    rintro r13 w13 ⟨rfl, hs13⟩
    have hM13 := hM12.ext hs13
    have hge9 := own_ge ho9
    have hstd : Step [bm] w5 w13 := (((hs89.trans hs10).then hs11 (fun b hb => .inr (hge9 b hb).1)).then hs12' (fun b hb => .inr (hge9 b hb).1)).trans hs13
    refine x (r_not rfl) <| xe ?_
    refine W_cond rfl (fun h121 => ?_) (fun h121 => ?_)
    rotate_left
    · have e : consAll l D = true := by simpa using h121
      rw [if_pos e] at hC2
      refine W_skip ?_
      refine W_region (by rfl) ?_
      refine x r_move <| x (r_add rfl rfl ⟨by omega, by omega⟩) <| x r_assign <| xe ?_
      refine ⟨(j + 1, vd, D), by simp only []; omega, ⟨rfl, trivial⟩, hltj, hstd, hM13.B, hM13.c, hDl, ?_⟩
      simp only []
      rw [hC2]; exact hr8
    have e : ¬ consAll l D = true := by simpa using h121
    rw [if_neg e] at hC2
    have hob13 : IntsO 3 w9.heap.size w13 vb cm := own_ext (own_step (own_step hob hs11 hsep) hs12' hsep) hs13
    have hz9 := hs89.size
    refine W_region (by rfl) ?_
    refine x r_move <| x r_move <| x (r_nilCheck rfl) <| x (r_fieldB rfl) <| xl rfl <| o_store hM13.B rfl rfl (by simp) (IntsO.ints (L := []) hob13 (by omega) (by simp)).one fun w14 hs14 hB14 => xe ?_
    refine W_region (by rfl) ?_
    refine x r_move <| x (r_add rfl rfl ⟨by omega, by omega⟩) <| x r_assign <| xe ?_
    refine ⟨(j + 1, vb, cm), by simp only []; omega, ⟨rfl, trivial⟩, hltj, hstd.trans' hs14, hB14, own_base (own_step hob13 hs14 (fun b hb => by have := (hgeb b hb).1; simp; omega)) (by omega), hl8, ?_⟩
    simp only []
    rw [hC2]; exact hr8
  clear hs6 hB6 ho6 hc0l hCL
  rintro vc g7 w7 ⟨hs7, hB7, ho7, hCl⟩
  -- the numbers
  have hz7 := hs7.size
  have hI7 := IntsO.ints (L := []) ho7 (by omega) (by simp)
  have hI7n : Arr [] w7.heap vc n 1 (CL.map (.int .i64)) := by rw [← hCl]; exact hI7
  have hW7 : Step [] w w7 := hW5.then1 hs7 (by omega)
  refine W_seq <| W_region (by rfl) ?_
  refine xl rfl <| o_makeMap kInt fun b127 w8 hs8 hb127 hm127 => xl rfl <| o_insert (k := (-1 : Int)) hm127 rfl rfl fun w9 hs9 hm9 => x r_move <| x r_assign <| xe ?_
  have hs79 : Step [] w7 w9 := hs8.then1 hs9 hb127
  have hz9 := hs79.size
  have hl127 := hm9.lt
  refine W_seq <| W_region (by rfl) ?_
  refine x r_move <| x (r_nilCheck rfl) <| x (r_fieldB rfl) <| x (r_loadB (hB7.ext hs79) rfl rfl) <| x (r_lenA hI7n rfl) <| xl rfl <| o_make (n := n) rfl rfl (by omega) fun b134 w10 hs10 hb134 hB134 =>
    x r_assign <| xe ?_
  have hl134 := hB134.lt
  have hs710 := hs79.trans hs10
  have hz10 := hs10.size
  have hB134' : Blk w10.heap b134 3 ((List.replicate n 0).map (.int .i64)) := by
    rw [List.map_replicate, ← rep_flat]; exact hB134
  have hIr : Ints [b127, b134] w10.heap vc CL := (hI7.up (fun b hb => .inr (by
    simp only [List.mem_cons, List.not_mem_nil, or_false] at hb
    omega))).ext hs710
  have hIrn : Arr [b127, b134] w10.heap vc n 1 (CL.map (.int .i64)) := by rw [← hCl]; exact hIr
  refine W_seq <| W_seq <| W_region (by rfl) ?_
  refine x r_move <| x (r_nilCheck rfl) <| x (r_fieldB rfl) <| x (r_loadB (hB7.ext hs710) rfl rfl) <| x (r_lenA hIrn rfl) <| x r_move <| xe ?_
  have hnm0 : NmOk (mput [] (-1 : Int) (.int .i64 (-1))) [-1] := by
    have h0 : NmOk [] [] := ⟨fun c => rfl, rfl⟩
    exact h0.add (c := -1) (by simp)
  refine W_block <| W_loop (α := Nat × List (Int × Value) × List Int × List Int) [(18, 21), (140, 164)] (fun z => [(140, .int .i64 z.1)])
    (fun z w' => z.1 ≤ n ∧ Step [b127, b134] w10 w' ∧ MapB kInt w'.heap b127 z.2.1 ∧ NmOk z.2.1 z.2.2.1 ∧ z.2.2.1.length ≤ z.1 + 1 ∧ z.2.2.2.length = z.1 ∧ Blk w'.heap b134 3 ((z.2.2.2 ++ List.replicate (n - z.1) 0).map (.int .i64)) ∧ (CL.drop z.1).foldl numS (z.2.2.1, z.2.2.2) = CL.foldl numS ([-1], []))
    (fun z => n - z.1) (by rfl) (0, _, [-1], []) ⟨rfl, trivial⟩ ⟨Nat.zero_le _, Step.refl _ _, hm9.ext hs10, hnm0, by simp, rfl, hB134', rfl⟩ ?_
  rintro ⟨k, m, K, out⟩ g11 w11 ⟨hk, hs11, hm11, hnm, hKl, hol, hB11, hr11⟩
  simp only [] at hk hm11 hnm hKl hol hB11 hr11
  refine W_seq <| W_region (by rfl) ?_
  refine x (r_lss rfl rfl) <| xe ?_
  refine W_seq <| W_ifn rfl (fun h141 => ?_) (fun h141 => ?_)
  · refine W_exit ?_
    refine W_seq <| W_region (by rfl) ?_
    refine x r_move <| x r_move <| x r_assign <| x r_assign <| xe ?_
    have hke : k = n := by omega
    rw [List.drop_of_length_le (by omega)] at hr11
    have hout : nums CL = out := by unfold nums; rw [← hr11]; rfl
    rw [hke, Nat.sub_self, List.replicate_zero, List.append_nil] at hB11
    have hst : Step [] w7 w11 := hs710.then hs11 (fun b hb => .inr (by
      simp only [List.mem_cons, List.not_mem_nil, or_false] at hb
      omega))
    have hst5 : Step [bm] w5 w11 := hs7.trans hst
    refine W_ret ⟨[.slice (some ⟨b134, 0, none⟩) n n, vl], ⟨rfl, rfl, trivial⟩, hW7.trans hst, _, vl, rfl, ?_, ⟨cs, hcs, fun L' hL' => ?_⟩, hCb⟩
    · rw [hout]
      unfold IntsO
      rw [hol, hke]
      exact hB11.own (sz := 1) (by simp; omega) (by omega) (by omega)
    · have h1 : Ctls L' w3.heap vl cs := hCs L' (fun b hb => by have := hL' b hb; omega)
      have h2 : Ctls (bm :: L') w3.heap vl cs := h1.up (fun b hb => by
        rcases List.mem_cons.1 hb with rfl | hb
        · right; omega
        · exact .inl hb)
      exact ((h2.ext hs35).st (hst5.mono (by simp))).up (fun b hb => .inl (List.mem_cons_of_mem _ hb))
  have hlt : k < n := by omega
  have hltC : k < CL.length := by omega
  obtain ⟨c, hc⟩ := exD (cget CL k)
  rw [List.drop_eq_getElem_cons hltC, List.foldl_cons, cget_eq hltC, hc] at hr11
  have hI11 := hIr.st hs11
  refine W_skip ?_
  refine W_seq <| W_block <| W_seq <| W_region (by rfl) ?_
  refine x r_move <| xic hI11 rfl rfl hltC fun a143 h143 => ?_
  rw [hc] at h143
  refine x (r_loadA h143 rfl) <| x r_assign <| x r_assign <| xe ?_
  obtain ⟨K', hK'⟩ := exD ((if c ∈ K then K else K ++ [c]))
  have hin : c ∈ K' := by rw [← hK']; split; assumption; simp
  have hnum : numS (K, out) c = (K', out ++ [(K'.idxOf c : Int) - 1]) := by
    unfold numS
    rw [← hK']
    by_cases e : c ∈ K
    · simp only [if_pos e]
    · simp only [if_neg e]; rw [List.idxOf_append, if_neg e]; simp
  rw [hnum] at hr11
  have hKl' : K'.length ≤ k + 1 + 1 := by rw [← hK']; split; omega; simp; omega
  refine W_cut (α := List (Int × Value)) [(20, 21), (145, 157)] (fun z => []) (fun z w' => Step [b127] w11 w' ∧ MapB kInt w'.heap b127 z ∧ NmOk z K') (by rfl) ?_ ?_
  · have hg := hnm.g c
    by_cases hcK : c ∈ K
    · rw [if_pos hcK] at hg hK'
      refine W_seq <| W_region (by rfl) ?_
      refine x r_move <| x r_move <| x (r_lookupS hm11 rfl rfl hg) <| x r_move <| x (r_extract rfl rfl) <| x (r_extract rfl rfl) <| x r_assign <| x r_assign <| xe ?_
      refine W_seq <| W_region (by rfl) ?_
      refine x r_move <| x (r_not rfl) <| xe ?_
      refine W_false rfl ?_
      refine W_skip ?_
      exact ⟨m, trivial, Step.refl _ _, hm11, by rw [← hK']; exact hnm⟩
    · rw [if_neg hcK] at hg hK'
      refine W_seq <| W_region (by rfl) ?_
      refine x r_move <| x r_move <| x (r_lookupN hm11 rfl rfl hg) <| x r_move <| x (r_extract rfl rfl) <| x (r_extract rfl rfl) <| x r_assign <| x r_assign <| xe ?_
      refine W_seq <| W_region (by rfl) ?_
      refine x r_move <| x (r_not rfl) <| xe ?_
      refine W_true rfl ?_
      have hml := hnm.len
      refine W_region (by rfl) ?_
      refine x r_move <| x r_move <| x r_move <| x (r_lenM hm11 rfl) <| x (r_sub rfl rfl ⟨by omega, by omega⟩) <| xl rfl <| o_update (k := c) hm11 rfl rfl fun w12 hs12 hm12 =>
        xe ?_
      refine ⟨mput m c (.int .i64 ((K.length : Int) - 1)), trivial, hs12, ?_, by rw [← hK']; exact hnm.add hcK⟩
      rw [← hml]; exact hm12
  rintro m' g13 w13 ⟨hs13, hm13, hnm'⟩
  have hg := hnm'.g c
  rw [if_pos hin] at hg
  have hB13 := hB11.step hs13 (by simp; omega)
  refine W_region (by rfl) ?_
  refine x r_move <| x r_move <| x r_move <| x r_move <| x (r_lookup1S hm13 rfl rfl hg) <| x (r_indexB (i := k) rfl rfl hlt) <| xl rfl <| o_storeI (u := (K'.idxOf c : Int) - 1) hB13 rfl rfl (by simp; omega) fun w14 hs14 hB14 =>
    xe ?_
  refine W_region (by rfl) ?_
  refine x (r_add rfl rfl ⟨by omega, by omega⟩) <| x r_move <| xe ?_
  refine ⟨(k + 1, m', K', out ++ [(K'.idxOf c : Int) - 1]), by simp only []; omega, ⟨rfl, trivial⟩, hlt, (hs11.then hs13 (fun b hb => .inl (by simp at hb; simp [hb]))).then hs14 (fun b hb => .inl (by simp at hb; simp [hb])), hm13.step hs14 (by simp; omega), hnm', hKl', by simp [hol], ?_, hr11⟩
  simp only []
  rw [← set_next hol hlt]; exact hB14
end Go.Proofs.YtfhgnlkdcdlblaaGreatDoor
/- What supervisor.open computes, as plain functions. -/
namespace Go.Proofs.YtfhgnlkdcdlblaaGreatDoor
open Go.Lg

theorem syEs_ok {aa : List Aut} {i : Nat} {t : List Int} (ho : ∀ a ∈ aa, Okay a) (ht : Vt aa t) : ∀ (vs : List Int) (s s' : Sy), SyOk aa s → syEs aa i t vs s = some s' → SyOk aa s'
  | [], s, s', h, e => by cases e; exact h
  | v :: vs, s, s', h, e => by
    rw [syEs] at e
    obtain ⟨s1, h1, h2⟩ := Option.bind_eq_some_iff.1 e
    exact syEs_ok ho ht vs s1 s' (syE_ok ho h ht h1) h2
theorem syL_ok {aa : List Aut} (ho : ∀ a ∈ aa, Okay a) : ∀ (f i : Nat) (s s' : Sy), SyOk aa s → syL aa f i s = some s' → SyOk aa s'
  | 0, i, s, s', h, e => by cases e; exact h
  | f + 1, i, s, s', h, e => by
    rw [syL] at e
    split at e
    · rename_i hi
      obtain ⟨s1, h1, h2⟩ := Option.bind_eq_some_iff.1 e
      have hv : Vt aa (syT s i) := h.v _ (by unfold syT; simp [List.getD, hi])
      exact syL_ok ho f _ s1 s' (syEs_ok ho hv _ _ _ (syMark_ok h) h1) h2
    · cases e; exact h
theorem sy0_ok {aa : List Aut} (ho : ∀ a ∈ aa, Okay a) (hz : ¬ ∃ a ∈ aa, a.st = 0) : SyOk aa (sy0 aa) := by
  refine ⟨fun t ht => ?_, by simp [sy0]⟩
  simp only [sy0, List.mem_singleton] at ht
  subst ht
  refine ⟨by simp, fun i h1 h2 => ?_⟩
  have h3 := (ho aa[i] (List.getElem_mem h2)).st0
  have h4 : aa[i].st ≠ 0 := fun e => hz ⟨aa[i], List.getElem_mem h2, e⟩
  simp only [List.getElem_replicate]; omega
theorem sync_ok {aa : List Aut} (ho : ∀ a ∈ aa, Okay a) {z : Aut × List (List Int)} (h : sync aa = some z) : (∀ t ∈ z.2, Vt aa t) ∧ z.2.length ≤ 4096 := by
  unfold sync at h
  split at h
  · cases h; simp
  · rename_i hz
    obtain ⟨s, h1, rfl⟩ := Option.map_eq_some_iff.1 h
    have := syL_ok ho _ _ _ _ (sy0_ok ho hz) h1
    exact ⟨this.v, this.le⟩
def opC (p s : Aut) : Int := if ckA p ≠ 0 then ckA p else if ckA s ≠ 0 then ckA s else if mrg (fun p q => p && !q) s.al p.al = [] then 0 else 9
/-- The code that open returns; the product; its pairs. -/
def opE (p s : Aut) : Int := if opC p s ≠ 0 then opC p s else match sync [p, s] with | none => 3 | some _ => 0
def opA (p s : Aut) : Aut := match sync [p, s] with | none => ⟨[], 0, [], []⟩ | some z => z.1
def opQ (p s : Aut) : List (List Int) := match sync [p, s] with | none => [] | some z => z.2
theorem opC_zero {p s : Aut} (h : opC p s = 0) : Okay p ∧ Okay s := by
  unfold opC at h
  split at h
  · rename_i h1; exact absurd h h1
  · rename_i h1
    split at h
    · rename_i h2; exact absurd h h2
    · rename_i h2
      exact ⟨(ckA_zero p).1 (Decidable.not_not.1 h1), (ckA_zero s).1 (Decidable.not_not.1 h2)⟩
theorem opE_zero {p s : Aut} (h : opE p s = 0) : Okay p ∧ Okay s ∧ sync [p, s] = some (opA p s, opQ p s) ∧ (∀ t ∈ opQ p s, Vt [p, s] t) ∧ (opQ p s).length ≤ 4096 := by
  have h' := h
  unfold opE at h'
  split at h'
  · rename_i h1; exact absurd h' h1
  · rename_i h1
    obtain ⟨h2, h3⟩ := opC_zero (Decidable.not_not.1 h1)
    cases hs : sync [p, s] with
    | none => rw [hs] at h'; cases h'
    | some z =>
      have hk := sync_ok (aa := [p, s]) (by intro a ha; simp at ha; rcases ha with rfl | rfl <;> assumption) hs
      have e1 : opA p s = z.1 := by unfold opA; rw [hs]
      have e2 : opQ p s = z.2 := by unfold opQ; rw [hs]
      rw [e1, e2]
      exact ⟨h2, h3, rfl, hk⟩
def maxI (l : List Int) : Int := (l.drop 1).foldl max (cget l 0)
end Go.Proofs.YtfhgnlkdcdlblaaGreatDoor
/- Contracts: supervisor.open; slices.Max. -/
namespace Go.Proofs.YtfhgnlkdcdlblaaGreatDoor
open Go.Lg

theorem AutF_st1 {N b : Nat} {w w' : World} {v : Value} {a : Aut} (h : AutF N w.heap v a) (hb : b < N) (hs : Step [b] w w') : AutF N w'.heap v a := by
  obtain ⟨va, vm, ve, h1, h2⟩ := h
  refine ⟨va, vm, ve, h1, fun L hL => ?_⟩
  exact ((h2 (b :: L) (fun c hc => by rcases List.mem_cons.1 hc with rfl | hc; exact hb; exact hL c hc)).st (hs.mono (by simp))).up (fun c hc => .inl (List.mem_cons_of_mem _ hc))
theorem TupF_st1 {N b : Nat} {w w' : World} {v : Value} {l : List (List Int)} (h : TupF N w.heap v l) (hb : b < N) (hs : Step [b] w w') : TupF N w'.heap v l := by
  obtain ⟨ps, h1, h2⟩ := h
  refine ⟨ps, h1, fun L hL => ?_⟩
  exact ((h2 (b :: L) (fun c hc => by rcases List.mem_cons.1 hc with rfl | hc; exact hb; exact hL c hc)).st (hs.mono (by simp))).up (fun c hc => .inl (List.mem_cons_of_mem _ hc))
theorem AutF_shape {N : Nat} {H : Array Obj} {v : Value} {a : Aut} (h : AutF N H v a) : ∃ us, v = .agg us.toArray ∧ us.length = 4 ∧ OnesL us := by
  obtain ⟨va, vm, ve, h1, h2⟩ := h
  have := h2 [] (by simp)
  exact ⟨[va, .int .i64 a.st, vm, ve], h1, rfl, this.al.one, rfl, this.mr.one, this.ed.one, trivial⟩
/-- What open returns. -/
structure OpRes (N : Nat) (H : Array Obj) (p s : Aut) (va vt : Value) : Prop where
  bad : opE p s ≠ 0 → va = zA ∧ vt = nilS
  good : opE p s = 0 → AutF N H va (opA p s) ∧ TupF N H vt (opQ p s)
theorem OpRes.ext {N : Nat} {w w' : World} {p s : Aut} {va vt : Value} (h : OpRes N w.heap p s va vt) (hs : Step [] w w') : OpRes N w'.heap p s va vt := ⟨h.bad, fun e => ⟨(h.good e).1.ext hs, (h.good e).2.ext hs⟩⟩
theorem OpRes.shape {N : Nat} {H : Array Obj} {p s : Aut} {va vt : Value} (h : OpRes N H p s va vt) : ∃ us, va = .agg us.toArray ∧ us.length = 4 ∧ OnesL us := by
  by_cases e : opE p s = 0
  · exact AutF_shape (h.good e).1
  · exact ⟨[.slice none 0 0, .int .i64 0, .slice none 0 0, .slice none 0 0], (h.bad e).1, rfl, rfl, rfl, rfl, rfl, trivial⟩
theorem OpRes.of {N : Nat} {H : Array Obj} {p s : Aut} {va vt : Value} {c : Int} (hc : opC p s = 0) (h : SyRes N H [p, s] va vt c) : c = opE p s ∧ OpRes N H p s va vt := by
  obtain ⟨h1, h2⟩ := opC_zero hc
  have hz : ckP [p, s] = 0 := by unfold ckP; rw [if_neg (by simp)]; exact (ckL_zero _).2 (by intro a ha; simp at ha; rcases ha with rfl | rfl <;> assumption)
  unfold SyRes at h
  rw [if_neg (by simp [hz])] at h
  have hE : opE p s = match sync [p, s] with | none => 3 | some _ => 0 := by unfold opE; exact if_neg (by simp [hc])
  cases hs : sync [p, s] with
  | none =>
    rw [hs] at h hE
    simp only [] at h hE
    exact ⟨by rw [hE]; exact h.1, fun _ => h.2, fun e => by rw [hE] at e; cases e⟩
  | some z =>
    rw [hs] at h hE
    simp only [] at h hE
    have e1 : opA p s = z.1 := by unfold opA; rw [hs]
    have e2 : opQ p s = z.2 := by unfold opQ; rw [hs]
    exact ⟨by rw [hE]; exact h.1, fun e => absurd hE e, fun _ => by rw [e1, e2]; exact h.2⟩

set_option maxHeartbeats 2000000 in
theorem sopen_ok {L : List Nat} {w : World} {pva pvm pve sa sm se : Value} {aP aS : Aut} (hp : AutA L w.heap pva pvm pve aP) (hs : AutA L w.heap sa sm se aS) (hst : Okay aP → Okay aS → aP.st ≤ 100 ∧ aS.st ≤ 100) :
    Ret Tryz.prog 29 [.agg #[pva, .int .i64 aP.st, pvm, pve], .agg #[sa, .int .i64 aS.st, sm, se]] w fun r w' => Step [] w w' ∧ ∃ va vt, r = .tuple #[va, vt, .int .i64 (opE aP aS)] ∧ OpRes w.heap.size w'.heap aP aS va vt := by
  refine Ret.of_W Tryz.func29 rfl Tryz.ntmps29 Tryz.results29 (by simp) ?_
  refine W_seq <| W_region (by rfl) ?_
  refine xl rfl <| o_box (us := [pva, .int .i64 aP.st, pvm, pve]) rfl fun b2 w1 hs1 hb2 hB2 => xl rfl <| o_box (us := [sa, .int .i64 aS.st, sm, se]) rfl fun b3 w2 hs2 hb3 hB3 =>
    xl rfl <| o_alloc (us := [.slice none 0 0, .int .i64 0, .slice none 0 0, .slice none 0 0]) rfl fun b4 w3 hs3 hb4 hB4 => x r_assign <| x r_assign <| xe ?_
  obtain ⟨ps, hps⟩ := exD ([⟨pva, pvm, pve, aP⟩, ⟨sa, sm, se, aS⟩] : List AV)
  have hs13 := (hs1.trans hs2).trans hs3
  have hB23 := (hB2.ext hs2).ext hs3
  have hB33 := hB3.ext hs3
  refine W_seq <| W_seq <| W_region (by rfl) ?_
  refine x (r_loadsB hB23 rfl rfl) <| x (r_loadsB hB33 rfl rfl) <| xl rfl <| o_lits (us := [avCells ⟨pva, pvm, pve, aP⟩, avCells ⟨sa, sm, se, aS⟩]) rfl rfl (by decide) (by exact (by decide : 2 * 4 ≤ 1000000)) ⟨rfl, rfl, rfl, rfl, trivial⟩ fun b12 w4 hs4 hb12 hB12 => ?_
  have hA4 : Arr [] w4.heap (.slice (some ⟨b12, 0, none⟩) 2 2) 2 4 (ps.flatMap avCells) := by rw [← hps]; exact hB12.arr (by simp) rfl (by omega) (by omega)
  have hpl : ps.length = 2 := by rw [← hps]; rfl
  have hA4' : Arr [] w4.heap (.slice (some ⟨b12, 0, none⟩) 2 2) ps.length 4 (ps.flatMap avCells) := by rw [hpl]; exact hA4
  have hz1 := hs1.size
  have hz2 := hs2.size
  have hz3 := hs3.size
  have hz4 := hs4.size
  have hl4 := hB4.lt
  have hW4 := hs13.trans hs4
  have hAA : ∀ p ∈ ps, AutA L w.heap p.va p.vm p.ve p.a := by rw [← hps]; intro p hp'; simp at hp'; rcases hp' with rfl | rfl <;> assumption
  refine x (r_lenA hA4 rfl) <| x r_move <| xe ?_
  refine W_block <| W_loop (α := Nat) [(5, 6), (8, 9), (14, 24)] (fun z => [(14, .int .i64 z)]) (fun z w' => z ≤ 2 ∧ Step [] w4 w' ∧ ∀ p ∈ ps.take z, ckA p.a = 0) (fun z => 2 - z) (by rfl) 0 ⟨rfl, trivial⟩
    ⟨Nat.zero_le _, Step.refl _ _, fun p hp => by simp at hp⟩ ?_
  rintro k g w5 ⟨hk, hs5, hck⟩
  have hW5 := hW4.trans hs5
  have hz5 := hs5.size
  have hB45 := (hB4.ext hs4).ext hs5
  refine W_seq <| W_region (by rfl) ?_
  refine x (r_lss rfl rfl) <| xe ?_
  refine W_seq <| W_ifn rfl (fun h15 => ?_) (fun h15 => ?_)
  · refine W_exit ?_
    rw [List.take_of_length_le (by omega), ← hps] at hck
    have c1 : ckA aP = 0 := hck ⟨pva, pvm, pve, aP⟩ (by simp)
    have c2 : ckA aS = 0 := hck ⟨sa, sm, se, aS⟩ (by simp)
    have o1 := (ckA_zero aP).1 c1
    have o2 := (ckA_zero aS).1 c2
    have hal1 := o1.al_le
    have hal2 := o2.al_le
    have hopC : opC aP aS = if mrg (fun p q => p && !q) aS.al aP.al = [] then 0 else 9 := by unfold opC; rw [if_neg (by simp [c1]), if_neg (by simp [c2])]
    refine W_seq <| W_seq <| W_region (by rfl) ?_
    refine x (r_fieldB rfl) <| x (r_loadB ((hB33.ext hs4).ext hs5) rfl rfl) <| x (r_fieldB rfl) <| x (r_loadB ((hB23.ext hs4).ext hs5) rfl rfl) <| xl rfl <| xf <| (Subset_ok (hs.al.ext hW5) (hp.al.ext hW5) (by omega)).mono ?_
    rintro r6 w6 ⟨hs6, rfl⟩
    refine x (r_not rfl) <| xe ?_
    have hB46 := hB45.ext hs6
    refine W_cond rfl (fun h30 => ?_) (fun h30 => ?_)
    · have hne : ¬ mrg (fun p q => p && !q) aS.al aP.al = [] := by simpa using h30
      rw [if_neg hne] at hopC
      have hE : opE aP aS = 9 := by unfold opE; rw [if_pos (by rw [hopC]; decide), hopC]
      refine W_seq <| W_region (by rfl) ?_
      refine x (r_build trivial) <| xl rfl <| o_stores (us := [.slice none 0 0, .int .i64 0, .slice none 0 0, .slice none 0 0]) hB46 rfl rfl rfl rfl ⟨rfl, rfl, rfl, rfl, trivial⟩ fun w7 hs7 hB7 => x r_assign <| x r_assign <| xe ?_
      refine W_ret ⟨[zA, nilS, .int .i64 9], ⟨⟨_, rfl, run_loadVar_ag rfl (hB7.at (L := []) (by simp)).cells⟩, rfl, rfl, trivial⟩, (hW5.trans hs6).then1 hs7 (by omega), zA, nilS, by rw [hE]; rfl, fun _ => ⟨rfl, rfl⟩, fun e => by rw [hE] at e; cases e⟩
    have heq : mrg (fun p q => p && !q) aS.al aP.al = [] := by simpa using h30
    rw [if_pos heq] at hopC
    have hst' := hst o1 o2
    refine W_skip ?_
    refine W_seq <| W_region (by rfl) ?_
    refine x (r_loadsB (((hB23.ext hs4).ext hs5).ext hs6) rfl rfl) <| x (r_loadsB (((hB33.ext hs4).ext hs5).ext hs6) rfl rfl) <| xl rfl <| o_lits (us := [avCells ⟨pva, pvm, pve, aP⟩, avCells ⟨sa, sm, se, aS⟩]) rfl rfl (by decide) (by exact (by decide : 2 * 4 ≤ 1000000)) ⟨rfl, rfl, rfl, rfl, trivial⟩ fun b34 w8 hs8 hb34 hB34 => ?_
    have hW8 := (hW5.trans hs6).trans hs8
    have hAu : Auts [] w8.heap (.slice (some ⟨b34, 0, none⟩) 2 2) [⟨pva, pvm, pve, aP⟩, ⟨sa, sm, se, aS⟩] := by
      refine ⟨hB34.arr (by simp) rfl (by simp) (by simp), fun q hq => ?_⟩
      simp at hq
      rcases hq with rfl | rfl
      · exact (hp.ext hW8).up (fun _ hb => by cases hb)
      · exact (hs.ext hW8).up (fun _ hb => by cases hb)
    refine xl rfl <| xf <| (Synchronous_ok hAu (by intro q hq; simp at hq; rcases hq with rfl | rfl; exact hst'.1; exact hst'.2)).mono ?_
    rintro r9 w9 ⟨hs9, va, vt, c, rfl, hR⟩
    obtain ⟨rfl, hO⟩ := OpRes.of hopC hR
    obtain ⟨us, hva, husl, hus⟩ := hO.shape
    have hz6 := hs6.size
    have hz8 := hs8.size
    refine x (r_extract rfl rfl) <| x (r_extract rfl rfl) <| x (r_extract rfl rfl) <| xl rfl <| o_stores (us := us) ((hB46.ext hs8).ext hs9) rfl hva husl rfl hus fun w10 hs10 hB10 =>
      x r_assign <| x r_assign <| xe ?_
    refine W_ret ⟨[.agg us.toArray, vt, .int .i64 (opE aP aS)], ⟨⟨_, rfl, run_loadVar_ag husl (hB10.at (L := []) (by simp)).cells⟩, rfl, rfl, trivial⟩, (hW8.trans hs9).then1 hs10 (by omega), va, vt, by rw [hva]; rfl, hO.bad, fun e => ?_⟩
    obtain ⟨g1, g2⟩ := hO.good e
    exact ⟨(AutF_st1 g1 (by omega) hs10).mono (by omega), (TupF_st1 g2 (by omega) hs10).mono (by omega)⟩
  have hlt : k < ps.length := by omega
  have hA := hAA _ (List.getElem_mem hlt)
  obtain ⟨q, hq⟩ := exD (ps[k]'hlt)
  rw [hq] at hA
  have hA4s := hA4'.ext hs5
  refine W_skip ?_
  refine W_seq <| W_block <| W_seq <| W_region (by rfl) ?_
  refine xig av_len hA4s rfl rfl hlt fun a16 h16 => ?_
  rw [hq] at h16
  refine x (r_loadsA h16 rfl rfl) <| xl rfl <| o_alloc (us := [.slice none 0 0, .int .i64 0, .slice none 0 0, .slice none 0 0]) rfl fun b8 w11 hs11 hb8 hB8 => xl rfl <| o_stores (us := avCells q) hB8 rfl rfl rfl rfl ⟨hA.al.one, rfl, hA.mr.one, hA.ed.one, trivial⟩ fun w12 hs12 hB8' =>
    xe ?_
  have hs512 : Step [] w5 w12 := hs11.then1 hs12 hb8
  refine W_seq <| W_region (by rfl) ?_
  refine x (r_loadsB hB8' rfl rfl) <| xl rfl <| xf <| (check_ok ((hA.ext hW5).ext hs512)).mono ?_
  rintro r13 w13 ⟨rfl, hs13'⟩
  refine x r_assign <| xe ?_
  have hs513 := hs512.trans hs13'
  refine W_seq <| W_region (by rfl) ?_
  refine x r_move <| x (r_neq rfl rfl) <| xe ?_
  refine W_if rfl (fun h21 => ?_) (fun h21 => ?_)
  · have hop : opC aP aS = ckA q.a := by
      have hk2 : k = 0 ∨ k = 1 := by omega
      subst hps
      rcases hk2 with rfl | rfl
      · simp only [List.getElem_cons_zero] at hq
        subst hq
        unfold opC; rw [if_pos h21]
      · simp only [List.getElem_cons_succ, List.getElem_cons_zero] at hq
        subst hq
        have c1 : ckA aP = 0 := hck ⟨pva, pvm, pve, aP⟩ (by simp)
        unfold opC; rw [if_neg (by simp [c1]), if_pos h21]
    have hE : opE aP aS = ckA q.a := by unfold opE; rw [if_pos (by rw [hop]; exact h21), hop]
    refine W_seq <| W_region (by rfl) ?_
    refine x (r_build trivial) <| x r_move <| xl rfl <| o_stores (us := [.slice none 0 0, .int .i64 0, .slice none 0 0, .slice none 0 0]) (hB45.ext hs513) rfl rfl rfl rfl ⟨rfl, rfl, rfl, rfl, trivial⟩ fun w14 hs14 hB14 => x r_assign <| x r_assign <| xe ?_
    refine W_ret ⟨[zA, nilS, .int .i64 (ckA q.a)], ⟨⟨_, rfl, run_loadVar_ag rfl (hB14.at (L := []) (by simp)).cells⟩, rfl, rfl, trivial⟩, (hW5.trans hs513).then1 hs14 (by omega), zA, nilS, by rw [hE]; rfl, fun _ => ⟨rfl, rfl⟩, fun e => by rw [hE] at e; exact absurd e h21⟩
  refine W_skip ?_
  refine W_region (by rfl) ?_
  refine x (r_add rfl rfl ⟨by omega, by omega⟩) <| x r_move <| xe ?_
  refine ⟨k + 1, by omega, ⟨rfl, trivial⟩, by omega, hs5.trans hs513, fun p hp' => ?_⟩
  rw [List.take_succ_eq_append_getElem hlt, hq] at hp'
  rcases List.mem_append.1 hp' with h1 | h1
  · exact hck p h1
  · simp only [List.mem_singleton] at h1
    subst h1
    exact Decidable.not_not.1 h21
end Go.Proofs.YtfhgnlkdcdlblaaGreatDoor
/- Contracts: supervisor.Map, Classes; slices.Max; automaton.Canonical. -/
namespace Go.Proofs.YtfhgnlkdcdlblaaGreatDoor
open Go.Lg

theorem Map_ok {L : List Nat} {w : World} {pva pvm pve sa sm se : Value} {aP aS : Aut} (hp : AutA L w.heap pva pvm pve aP) (hs : AutA L w.heap sa sm se aS) (hst : Okay aP → Okay aS → aP.st ≤ 100 ∧ aS.st ≤ 100) :
    Ret Tryz.prog 17 [.agg #[pva, .int .i64 aP.st, pvm, pve], .agg #[sa, .int .i64 aS.st, sm, se]] w fun r w' => Step [] w w' ∧ ∃ v, r = .tuple #[v, .int .i64 (opE aP aS)] ∧
      (opE aP aS ≠ 0 → v = nilS) ∧ (opE aP aS = 0 → CtlF w.heap.size w'.heap v (ctls aP aS (opQ aP aS)) ∧ ∀ c ∈ ctls aP aS (opQ aP aS), c.en.length ≤ 1000000 ∧ c.dis.length ≤ 1000000) := by
  refine Ret.of_W Tryz.func17 rfl Tryz.ntmps17 Tryz.results17 (by simp) ?_
  refine W_seq <| W_region (by rfl) ?_
  refine xl rfl <| o_box (us := [pva, .int .i64 aP.st, pvm, pve]) rfl fun b2 w1 hs1 hb2 hB2 => xl rfl <| o_box (us := [sa, .int .i64 aS.st, sm, se]) rfl fun b3 w2 hs2 hb3 hB3 => x r_assign <| x r_assign <| xe ?_
  have hs12 := hs1.trans hs2
  refine W_seq <| W_region (by rfl) ?_
  refine x (r_loadsB (hB2.ext hs2) rfl rfl) <| x (r_loadsB hB3 rfl rfl) <| xl rfl <| xf <| (sopen_ok (hp.ext hs12) (hs.ext hs12) hst).mono ?_
  rintro r3 w3 ⟨hs3, va, vt, rfl, hO⟩
  obtain ⟨us, hva, husl, hus⟩ := hO.shape
  refine x r_move <| x (r_extract rfl rfl) <|
    x (r_extract rfl rfl) <| x (r_extract rfl rfl) <| xl rfl <| o_alloc (us := [.slice none 0 0, .int .i64 0, .slice none 0 0, .slice none 0 0]) rfl fun b6 w4 hs4 hb6 hB6 => xl rfl <| o_stores (us := us) hB6 rfl hva husl rfl hus fun w5 hs5 hB6 =>
    x r_assign <| x r_assign <| xe ?_
  have hs35 : Step [] w3 w5 := hs4.then1 hs5 hb6
  have hW5 := (hs12.trans hs3).trans hs35
  refine W_seq <| W_seq <| W_region (by rfl) ?_
  refine x r_move <| x (r_neq rfl rfl) <| xe ?_
  refine W_if rfl (fun h19 => ?_) (fun h19 => ?_)
  · refine W_seq <| W_region (by rfl) ?_
    refine x r_move <| x r_assign <| x r_assign <| xe ?_
    exact W_ret ⟨[nilS, .int .i64 (opE aP aS)], ⟨rfl, rfl, trivial⟩, hW5, nilS, rfl, fun _ => rfl, fun e => absurd e h19⟩
  have h0 : opE aP aS = 0 := Decidable.not_not.1 h19
  obtain ⟨o1, o2, _, hv, hl⟩ := opE_zero h0
  obtain ⟨qs, hqe, hqs⟩ := (hO.good h0).2
  have hqsl : qs.length ≤ 4096 := by rw [← hqe] at hl; simpa using hl
  have hT5 : Tups [] w5.heap vt qs := (hqs [] (by simp)).ext hs35
  have hB2' := ((hB2.ext hs2).ext hs3).ext hs35
  have hB3' := (hB3.ext hs3).ext hs35
  refine W_skip ?_
  refine W_seq <| W_region (by rfl) ?_
  refine x (r_loadsB hB2' rfl rfl) <| x (r_loadsB hB3' rfl rfl) <| x r_move <| xl rfl <| xf <| (controls_ok ((hp.ext hW5).up (L' := []) (fun _ hb => by cases hb)) ((hs.ext hW5).up (L' := []) (fun _ hb => by cases hb)) o1 o2 hT5 (fun q hq => hv q.2 (by rw [← hqe]; exact List.mem_map_of_mem hq)) hqsl).mono ?_
  rintro r6 w6 ⟨hs6, vo, bo, rfl, hC, hCb, _, _⟩
  refine x r_move <| x (r_extract rfl rfl) <| x (r_extract rfl rfl) <| x r_assign <| x r_assign <| xe ?_
  refine W_seq <| W_region (by rfl) ?_
  refine x r_move <| x r_assign <| x r_assign <| xe ?_
  rw [hqe] at hC hCb
  have hz := hW5.size
  exact W_ret ⟨[vo, .int .i64 0], ⟨rfl, rfl, trivial⟩, hW5.trans hs6, vo, by rw [h0]; rfl, fun e => absurd h0 e, fun _ => ⟨hC.mono hz, hCb⟩⟩

theorem Classes_ok {L : List Nat} {w : World} {pva pvm pve sa sm se : Value} {aP aS : Aut} (hp : AutA L w.heap pva pvm pve aP) (hs : AutA L w.heap sa sm se aS) (hst : Okay aP → Okay aS → aP.st ≤ 100 ∧ aS.st ≤ 100) :
    Ret Tryz.prog 18 [.agg #[pva, .int .i64 aP.st, pvm, pve], .agg #[sa, .int .i64 aS.st, sm, se]] w fun r w' => Step [] w w' ∧ ∃ v, r = .tuple #[v, .int .i64 (opE aP aS)] ∧
      (opE aP aS ≠ 0 → v = nilS) ∧ (opE aP aS = 0 → IntsO 3 w.heap.size w' v (clsOf aP aS (opQ aP aS))) := by
  refine Ret.of_W Tryz.func18 rfl Tryz.ntmps18 Tryz.results18 (by simp) ?_
  refine W_seq <| W_region (by rfl) ?_
  refine xl rfl <| o_box (us := [pva, .int .i64 aP.st, pvm, pve]) rfl fun b2 w1 hs1 hb2 hB2 => xl rfl <| o_box (us := [sa, .int .i64 aS.st, sm, se]) rfl fun b3 w2 hs2 hb3 hB3 => x r_assign <| x r_assign <| xe ?_
  have hs12 := hs1.trans hs2
  refine W_seq <| W_region (by rfl) ?_
  refine x (r_loadsB (hB2.ext hs2) rfl rfl) <| x (r_loadsB hB3 rfl rfl) <| xl rfl <| xf <| (sopen_ok (hp.ext hs12) (hs.ext hs12) hst).mono ?_
  rintro r3 w3 ⟨hs3, va, vt, rfl, hO⟩
  obtain ⟨us, hva, husl, hus⟩ := hO.shape
  refine x r_move <| x (r_extract rfl rfl) <|
    x (r_extract rfl rfl) <| x (r_extract rfl rfl) <| xl rfl <| o_alloc (us := [.slice none 0 0, .int .i64 0, .slice none 0 0, .slice none 0 0]) rfl fun b6 w4 hs4 hb6 hB6 => xl rfl <| o_stores (us := us) hB6 rfl hva husl rfl hus fun w5 hs5 hB6 =>
    x r_assign <| x r_assign <| xe ?_
  have hs35 : Step [] w3 w5 := hs4.then1 hs5 hb6
  have hW5 := (hs12.trans hs3).trans hs35
  refine W_seq <| W_seq <| W_region (by rfl) ?_
  refine x r_move <| x (r_neq rfl rfl) <| xe ?_
  refine W_if rfl (fun h19 => ?_) (fun h19 => ?_)
  · refine W_seq <| W_region (by rfl) ?_
    refine x r_move <| x r_assign <| x r_assign <| xe ?_
    exact W_ret ⟨[nilS, .int .i64 (opE aP aS)], ⟨rfl, rfl, trivial⟩, hW5, nilS, rfl, fun _ => rfl, fun e => absurd e h19⟩
  have h0 : opE aP aS = 0 := Decidable.not_not.1 h19
  obtain ⟨o1, o2, _, hv, hl⟩ := opE_zero h0
  obtain ⟨qs, hqe, hqs⟩ := (hO.good h0).2
  have hqsl : qs.length ≤ 4096 := by rw [← hqe] at hl; simpa using hl
  have hT5 : Tups [] w5.heap vt qs := (hqs [] (by simp)).ext hs35
  have hB2' := ((hB2.ext hs2).ext hs3).ext hs35
  have hB3' := (hB3.ext hs3).ext hs35
  refine W_skip ?_
  refine W_seq <| W_region (by rfl) ?_
  refine x (r_loadsB hB2' rfl rfl) <| x (r_loadsB hB3' rfl rfl) <| x r_move <| xl rfl <| xf <| (classes_ok ((hp.ext hW5).up (L' := []) (fun _ hb => by cases hb)) ((hs.ext hW5).up (L' := []) (fun _ hb => by cases hb)) o1 o2 hT5 (fun q hq => hv q.2 (by rw [← hqe]; exact List.mem_map_of_mem hq)) hqsl).mono ?_
  rintro r6 w6 ⟨hs6, vo, vl, rfl, hC, _, _⟩
  refine x r_move <| x (r_extract rfl rfl) <| x (r_extract rfl rfl) <| x r_assign <| x r_assign <| xe ?_
  refine W_seq <| W_region (by rfl) ?_
  refine x r_move <| x r_assign <| x r_assign <| xe ?_
  rw [hqe] at hC
  have hz := hW5.size
  exact W_ret ⟨[vo, .int .i64 0], ⟨rfl, rfl, trivial⟩, hW5.trans hs6, vo, by rw [h0]; rfl, fun e => absurd h0 e, fun _ => own_base hC hz⟩

theorem Max_ok {L : List Nat} {w : World} {v : Value} {l : List Int} (h : Ints L w.heap v l) (h0 : 0 < l.length) :
    Ret Tryz.prog 49 [v] w fun r w' => r = .int .i64 (maxI l) ∧ w' = w := by
  have hle := h.le
  refine Ret.of_W Tryz.func49 rfl Tryz.ntmps49 Tryz.results49 (by simp) ?_
  refine W_seq <| W_region (by rfl) ?_
  refine x r_assign <| xe ?_
  refine W_seq <| W_seq <| W_region (by rfl) ?_
  refine x r_move <| x (r_lenA h rfl) <| x (r_lss rfl rfl) <| xe ?_
  refine W_ifn rfl (fun h7 => ?_) (fun h7 => absurd h7 (by omega))
  refine W_skip ?_
  refine W_seq <| W_region (by rfl) ?_
  refine x r_move <| xic (i := 0) h rfl rfl h0 fun a10 h10 => x (r_loadA h10 rfl) <| x r_assign <| xe ?_
  refine W_seq <| W_seq <| W_region (by rfl) ?_
  refine x r_assign <| xe ?_
  refine W_block <| W_loop (α := Nat × Int) [(3, 4), (12, 23)] (fun z => [(3, .int .i64 z.2), (4, .int .i64 z.1)]) (fun z w' => w' = w ∧ z.1 ≤ l.length ∧ (l.drop z.1).foldl max z.2 = maxI l) (fun z => l.length - z.1) (by rfl) (1, cget l 0) ⟨rfl, rfl, trivial⟩
    ⟨rfl, h0, rfl⟩ ?_
  rintro ⟨k, m⟩ g w4 ⟨rfl, hk, hr⟩
  simp only [] at hk hr
  refine W_seq <| W_seq <| W_region (by rfl) ?_
  refine x r_move <| x r_move <| x (r_lenA h rfl) <| x (r_lss rfl rfl) <| xe ?_
  refine W_ifn rfl (fun h15 => ?_) (fun h15 => ?_)
  · refine W_exit ?_
    refine W_seq <| W_region (by rfl) ?_
    refine x r_move <| x r_assign <| xe ?_
    rw [List.drop_of_length_le (by omega)] at hr
    exact W_ret ⟨[.int .i64 m], ⟨rfl, trivial⟩, by rw [← hr]; rfl, rfl⟩
  have hlt : k < l.length := by omega
  rw [List.drop_eq_getElem_cons hlt, List.foldl_cons, cget_eq hlt] at hr
  refine W_skip ?_
  refine W_seq <| W_block <| W_region (by rfl) ?_
  refine x r_move <| x r_move <| x r_move <| xic (i := k) h rfl rfl hlt fun a21 h21 => x (r_loadA h21 rfl) <| x (r_max rfl rfl) <| x r_assign <|
    xe ?_
  refine W_region (by rfl) ?_
  refine x r_move <| x (r_add rfl rfl ⟨by omega, by omega⟩) <| x r_assign <| xe ?_
  exact ⟨(k + 1, max m (cget l k)), by simp only []; omega, ⟨rfl, rfl, trivial⟩, rfl, hlt, hr⟩

theorem Canonical_ok {L : List Nat} {w : World} {va vm ve : Value} {a : Aut} (h : AutA L w.heap va vm ve a) :
    Ret Tryz.prog 52 [.agg #[va, .int .i64 a.st, vm, ve]] w fun r w' => Step [] w w' ∧ ∃ v, r = .tuple #[v, .int .i64 (ckA a)] ∧ (ckA a ≠ 0 → v = zA) ∧ (ckA a = 0 → AutF w.heap.size w'.heap v (canA a)) := by
  refine Ret.of_W Tryz.func52 rfl Tryz.ntmps52 Tryz.results52 (by simp) ?_
  refine W_seq <| W_region (by rfl) ?_
  refine xl rfl <| o_box (us := [va, .int .i64 a.st, vm, ve]) rfl fun b1 w1 hs1 hb1 hB1 => xl rfl <| o_alloc (us := [.slice none 0 0, .int .i64 0, .slice none 0 0, .slice none 0 0]) rfl fun b2 w2 hs2 hb2 hB2 => x r_assign <| xe ?_
  have hs12 := hs1.trans hs2
  refine W_seq <| W_seq <| W_region (by rfl) ?_
  refine x (r_loadsB (hB1.ext hs2) rfl rfl) <| xl rfl <| xf <| (check_ok (h.ext hs12)).mono ?_
  rintro r3 w3 ⟨rfl, hs3⟩
  refine x r_assign <| xe ?_
  have hz1 := hs1.size
  refine W_seq <| W_region (by rfl) ?_
  refine x r_move <| x (r_neq rfl rfl) <| xe ?_
  refine W_if rfl (fun h8 => ?_) (fun h8 => ?_)
  · refine W_seq <| W_region (by rfl) ?_
    refine x (r_build trivial) <| x r_move <| xl rfl <| o_stores (us := [.slice none 0 0, .int .i64 0, .slice none 0 0, .slice none 0 0]) (hB2.ext hs3) rfl rfl rfl rfl ⟨rfl, rfl, rfl, rfl, trivial⟩ fun w4 hs4 hB4 => x r_assign <| xe ?_
    exact W_ret ⟨[zA, .int .i64 (ckA a)], ⟨⟨_, rfl, run_loadVar_ag rfl (hB4.at (L := []) (by simp)).cells⟩, rfl, trivial⟩, (hs12.trans hs3).then1 hs4 (by omega), zA, rfl, fun _ => rfl, fun e => absurd e h8⟩
  have hc : ckA a = 0 := Decidable.not_not.1 h8
  have hok := (ckA_zero a).1 hc
  have hl2 := hB2.lt
  have hs13 := hs12.trans hs3
  refine W_skip ?_
  refine W_seq <| W_region (by rfl) ?_
  refine x (r_loadsB ((hB1.ext hs2).ext hs3) rfl rfl) <| xl rfl <| xf <| (canonical_ok (h.ext hs13) hok).mono ?_
  rintro v w5 ⟨hs5, hF⟩
  obtain ⟨us, hva, husl, hus⟩ := AutF_shape hF
  have hz3 := hs3.size
  have hz13 := hs13.size
  refine xl rfl <| o_stores (us := us) ((hB2.ext hs3).ext hs5) rfl hva husl rfl hus fun w6 hs6 hB6 =>
    x r_assign <| xe ?_
  refine W_ret ⟨[.agg us.toArray, .int .i64 0], ⟨⟨_, rfl, run_loadVar_ag husl (hB6.at (L := []) (by simp)).cells⟩, rfl, trivial⟩, (hs13.trans hs5).then1 hs6 (by omega), v, by rw [hc, hva]; rfl, fun e => absurd hc e, fun _ => ?_⟩
  exact (AutF_st1 hF (by omega) hs6).mono hz13
end Go.Proofs.YtfhgnlkdcdlblaaGreatDoor
/- What supervisor.Reduce computes, as plain functions. -/
namespace Go.Proofs.YtfhgnlkdcdlblaaGreatDoor
open Go.Lg

/-! ### Maps to numbers -/
def gget : List ((Int × Int) × Int) → Int × Int → Option Int
  | [], _ => none
  | (k', v) :: m, k => if k' = k then some v else gget m k
def gput : List ((Int × Int) × Int) → Int × Int → Int → List ((Int × Int) × Int)
  | [], k, v => [(k, v)]
  | (k', v') :: m, k, v => if k' = k then (k', v) :: m else (k', v') :: gput m k v
def genc (m : List ((Int × Int) × Int)) : List ((Int × Int) × Value) := m.map fun p => (p.1, .int .i64 p.2)
theorem genc_get (k : Int × Int) : ∀ m, mget (genc m) k = (gget m k).map (Value.int .i64)
  | [] => rfl
  | (k', v) :: m => by
    have ih := genc_get k m
    unfold genc at *
    simp only [List.map_cons, mget, gget]
    split
    · rfl
    · exact ih
theorem genc_put (k : Int × Int) (v : Int) : ∀ m, mput (genc m) k (.int .i64 v) = genc (gput m k v)
  | [] => rfl
  | (k', v') :: m => by
    have ih := genc_put k v m
    unfold genc at *
    simp only [List.map_cons, mput, gput]
    split
    · rfl
    · simp only [List.map_cons, ih]
theorem gget_gput (k k' : Int × Int) (v : Int) : ∀ m, gget (gput m k v) k' = if k = k' then some v else gget m k'
  | [] => by simp [gput, gget]
  | (q, v') :: m => by
    have ih := gget_gput k k' v m
    rw [gput]
    by_cases h : q = k
    · subst h
      rw [if_pos rfl, gget, gget]
      split <;> rfl
    · rw [if_neg h, gget, gget, ih]
      by_cases h2 : q = k'
      · subst h2; rw [if_pos rfl, if_pos rfl, if_neg (Ne.symm h)]
      · rw [if_neg h2, if_neg h2]

/-! ### The reduced supervisor -/
def redE (s : Aut) (cls : List Int) (x : Nat) (m : List ((Int × Int) × Int)) (v : Int) : List ((Int × Int) × Int) := gput m (cget cls x, v) (cget cls (to0 s x v).toNat)
def redX (s : Aut) (l : List Ctl) (cls : List Int) (z : List Int × List ((Int × Int) × Int)) (x : Nat) : List Int × List ((Int × Int) × Int) :=
  if cget cls x < 0 then z else (if ((lget l x).mk' && (lget l x).ps) = true then uni1 z.1 (cget cls x) else z.1, (lget l x).en.foldl (redE s cls x) z.2)
def redZ (s : Aut) (l : List Ctl) (cls : List Int) : List Int × List ((Int × Int) × Int) := (List.range' 0 cls.length).foldl (redX s l cls) ([], [])
def redF (m : List ((Int × Int) × Int)) (c : Nat) (v : Int) : Option Ed := (gget m ((c : Int), v)).map fun t => ((c : Int), v, t)
def redR (m : List ((Int × Int) × Int)) (al : List Int) (n : Nat) : List Ed := (List.range' 0 n).flatMap fun c => al.filterMap (redF m c)
/-- The supervisor of the classes. -/
def redA (s : Aut) (l : List Ctl) (cls : List Int) : Aut := ⟨s.al, maxI cls + 1, (redZ s l cls).1, redR (redZ s l cls).2 s.al (maxI cls + 1).toNat⟩
def red (p s : Aut) : Aut := redA s (ctls p s (opQ p s)) (clsOf p s (opQ p s))
/-- The code and the automaton that Reduce returns. -/
def rdE (p s : Aut) : Int := if opE p s ≠ 0 then opE p s else if opQ p s = [] then 0 else ckA (red p s)
def rdA (p s : Aut) : Aut := if opQ p s = [] then ⟨s.al, 0, [], []⟩ else canA (red p s)

theorem numS_bd {z : List Int × List Int} {n : Nat} (h : ∀ c ∈ z.2, -1 ≤ c ∧ c < n) (hK : z.1.length ≤ n) (h0 : 0 < z.1.length) (c : Int) : (∀ d ∈ (numS z c).2, -1 ≤ d ∧ d < (n + 1 : Nat)) ∧ (numS z c).1.length ≤ n + 1 ∧ 0 < (numS z c).1.length := by
  unfold numS
  split
  · rename_i hc
    have := List.idxOf_lt_length_of_mem hc
    refine ⟨fun d hd => ?_, by simp only []; omega, h0⟩
    simp only [List.mem_append, List.mem_singleton] at hd
    rcases hd with hd | rfl
    · have := h d hd; omega
    · omega
  · refine ⟨fun d hd => ?_, by simp; omega, by simp⟩
    simp only [List.mem_append, List.mem_singleton] at hd
    rcases hd with hd | rfl
    · have := h d hd; omega
    · omega
theorem nums_bdF : ∀ (l : List Int) (z : List Int × List Int) (n : Nat), (∀ c ∈ z.2, -1 ≤ c ∧ c < n) → z.1.length ≤ n → 0 < z.1.length → ∀ c ∈ (l.foldl numS z).2, -1 ≤ c ∧ c < (n + l.length : Nat)
  | [], z, n, h, _, _ => by simpa using h
  | d :: l, z, n, h, hK, h0 => by
    obtain ⟨h1, h2, h3⟩ := numS_bd h hK h0 d
    have := nums_bdF l (numS z d) (n + 1) h1 h2 h3
    rw [List.foldl_cons]
    intro c hc
    have := this c hc
    simp only [List.length_cons]
    omega
theorem nums_bd (l : List Int) : ∀ c ∈ nums l, -1 ≤ c ∧ c ≤ l.length := by
  intro c hc
  have := nums_bdF l ([-1], []) 1 (by simp) (by simp) (by simp) c hc
  omega
theorem maxI_mem {l : List Int} (h : 0 < l.length) : maxI l ∈ l := by
  have key : ∀ (r : List Int) (m : Int), r.foldl max m = m ∨ r.foldl max m ∈ r := by
    intro r
    induction r with
    | nil => intro m; exact .inl rfl
    | cons a r ih =>
      intro m
      rw [List.foldl_cons]
      rcases ih (max m a) with h1 | h1
      · rw [h1]
        by_cases e : m ≤ a
        · rw [Int.max_eq_right e]; exact .inr List.mem_cons_self
        · rw [Int.max_eq_left (by omega)]; exact .inl rfl
      · exact .inr (List.mem_cons_of_mem _ h1)
  cases l with
  | nil => simp at h
  | cons a l =>
    unfold maxI
    simp only [List.drop_succ_cons, List.drop_zero]
    have e : cget (a :: l) 0 = a := rfl
    rw [e]
    rcases key l a with h1 | h1
    · rw [h1]; exact List.mem_cons_self
    · exact List.mem_cons_of_mem _ h1
end Go.Proofs.YtfhgnlkdcdlblaaGreatDoor
/- Contract: supervisor.Reduce. -/
namespace Go.Proofs.YtfhgnlkdcdlblaaGreatDoor
open Go.Lg

theorem ctls_len (p s : Aut) (q : List (List Int)) : (ctls p s q).length = s.st.toNat := by
  unfold ctls
  have : ∀ (q : List (List Int)) (o : List Ctl), (q.foldl (ctlQ p s) o).length = o.length := by
    intro q
    induction q with
    | nil => intro o; rfl
    | cons a q ih => intro o; rw [List.foldl_cons, ih]; simp [ctlQ]
  rw [this]; simp
theorem tryC_len (s : Aut) (l : List Ctl) (c : List Int) (x y : Nat) : (tryC s l c x y).length = c.length := by
  unfold tryC
  split
  · rfl
  · simp only []
    split
    · rw [closeC_len, mergeC_len]
    · rfl
theorem tryX_len (s : Aut) (l : List Ctl) (n x : Nat) (c : List Int) : (tryX s l n c x).length = c.length := by
  unfold tryX
  generalize List.range' (x + 1) (n - (x + 1)) = ys
  induction ys generalizing c with
  | nil => rfl
  | cons y ys ih => rw [List.foldl_cons, ih, tryC_len]
theorem clsA_len (s : Aut) (l : List Ctl) (c : List Int) : (clsA s l c).length = c.length := by
  unfold clsA
  have : ∀ (n : Nat) (xs : List Nat) (c : List Int), (xs.foldl (tryX s l n) c).length = c.length := by
    intro n xs
    induction xs with
    | nil => intro c; rfl
    | cons x xs ih => intro c; rw [List.foldl_cons, ih, tryX_len]
  exact this _ _ _
theorem clsOf_len (p s : Aut) (q : List (List Int)) : (clsOf p s q).length = s.st.toNat := by
  unfold clsOf nums
  rw [nums_len, clsA_len]; simp [cls0, occs_len]
theorem clsOf_bd (p s : Aut) (q : List (List Int)) : ∀ c ∈ clsOf p s q, -1 ≤ c ∧ c ≤ s.st.toNat := by
  intro c hc
  have := nums_bd _ c hc
  rw [clsA_len] at this
  simpa [cls0, occs_len] using this
theorem cget_mem {l : List Int} {i : Nat} (h : i < l.length) : cget l i ∈ l := by rw [← cget_eq h]; exact List.getElem_mem h
theorem exE {α : Type} (a : α) {Q : Prop} (h : ∀ b, a = b → Q) : Q := h a rfl
theorem exN {a : Int} (h0 : 0 ≤ a) {Q : Prop} (h : ∀ u : Nat, a = u → Q) : Q := h a.toNat (Int.toNat_of_nonneg h0).symm
theorem gget_elim (m : List ((Int × Int) × Int)) (k : Int × Int) {Q : Prop} (h1 : mget (genc m) k = none → gget m k = none → Q) (h2 : ∀ t, mget (genc m) k = some (.int .i64 t) → gget m k = some t → Q) : Q := by
  rw [genc_get] at h1 h2
  cases h : gget m k with
  | none => rw [h] at h1; exact h1 rfl rfl
  | some t => rw [h] at h2; exact h2 t rfl rfl
set_option maxHeartbeats 8000000 in
theorem Reduce_ok {L : List Nat} {w : World} {pva pvm pve sa sm se : Value} {aP aS : Aut} (hp : AutA L w.heap pva pvm pve aP) (hsA : AutA L w.heap sa sm se aS) (hst : Okay aP → Okay aS → aP.st ≤ 100 ∧ aS.st ≤ 100) :
    Ret Tryz.prog 19 [.agg #[pva, .int .i64 aP.st, pvm, pve], .agg #[sa, .int .i64 aS.st, sm, se]] w fun r w' => Step [] w w' ∧ ∃ v, r = .tuple #[v, .int .i64 (rdE aP aS)] ∧
      (rdE aP aS ≠ 0 → v = zA) ∧ (rdE aP aS = 0 → AutF w.heap.size w'.heap v (rdA aP aS)) := by
  refine Ret.of_W Tryz.func19 rfl Tryz.ntmps19 Tryz.results19 (by simp) ?_
  refine W_seq <| W_region (by rfl) ?_
  refine xl rfl <| o_box (us := [pva, .int .i64 aP.st, pvm, pve]) rfl fun b2 w1 hs1 hb2 hB2 => xl rfl <| o_box (us := [sa, .int .i64 aS.st, sm, se]) rfl fun b3 w2 hs2 hb3 hB3 =>
    xl rfl <| o_alloc (us := [.slice none 0 0, .int .i64 0, .slice none 0 0, .slice none 0 0]) rfl fun b4 w3 hs3 hb4 hB4 => x r_assign <| xe ?_
  have hs13 := (hs1.trans hs2).trans hs3
  refine W_seq <| W_region (by rfl) ?_
  refine x (r_loadsB ((hB2.ext hs2).ext hs3) rfl rfl) <| x (r_loadsB (hB3.ext hs3) rfl rfl) <| xl rfl <| xf <| (sopen_ok (hp.ext hs13) (hsA.ext hs13) hst).mono ?_
  rintro r4 w4 ⟨hs4, va, vt, rfl, hO⟩
  obtain ⟨us, hva, husl, hus⟩ := hO.shape
  refine x r_move <| x (r_extract rfl rfl) <|
    x (r_extract rfl rfl) <| x (r_extract rfl rfl) <| xl rfl <| o_alloc (us := [.slice none 0 0, .int .i64 0, .slice none 0 0, .slice none 0 0]) rfl fun b6 w5 hs5 hb6 hB6 => xl rfl <| o_stores (us := us) hB6 rfl hva husl rfl hus fun w6 hs6 hB6 =>
    x r_assign <| x r_assign <| xe ?_
  have hs46 : Step [] w4 w6 := hs5.then1 hs6 hb6
  have hs36 := hs4.trans hs46
  have hW6 := hs13.trans hs36
  have hB46 := hB4.ext hs36
  have hl4 := hB4.lt
  have hz1 := hs1.size
  have hz2 := hs2.size
  have hz36 := hs36.size
  have hzW6 := hW6.size
  refine W_seq <| W_seq <| W_region (by rfl) ?_
  refine x r_move <| x (r_neq rfl rfl) <| xe ?_
  refine W_if rfl (fun h31 => ?_) (fun h31 => ?_)
  · have hE : rdE aP aS = opE aP aS := by unfold rdE; rw [if_pos h31]
    refine W_seq <| W_region (by rfl) ?_
    refine x (r_build trivial) <| x r_move <| xl rfl <| o_stores (us := [.slice none 0 0, .int .i64 0, .slice none 0 0, .slice none 0 0]) hB46 rfl rfl rfl rfl ⟨rfl, rfl, rfl, rfl, trivial⟩ fun w7 hs7 hB7 => x r_assign <| xe ?_
    exact W_ret ⟨[zA, .int .i64 (opE aP aS)], ⟨⟨_, rfl, run_loadVar_ag rfl (hB7.at (L := []) (by simp)).cells⟩, rfl, trivial⟩, hW6.then1 hs7 (by omega), zA, by rw [hE]; rfl, fun _ => rfl, fun e => by rw [hE] at e; exact absurd e h31⟩
  have h0 : opE aP aS = 0 := Decidable.not_not.1 h31
  obtain ⟨o1, o2, _, hv, hl⟩ := opE_zero h0
  obtain ⟨qs, hqe, hqs⟩ := (hO.good h0).2
  have hqsl : qs.length ≤ 4096 := by rw [← hqe] at hl; simpa using hl
  obtain ⟨n, hn⟩ : ∃ n : Nat, aS.st = n := ⟨aS.st.toNat, by have := o2.st0; omega⟩
  have hn4 : n ≤ 4096 := by have := o2.st1; omega
  have hnn : aS.st.toNat = n := by omega
  have hsb : StB aS n := fun e he => by have := o2.ed e he; omega
  have hal := o2.al_le
  have hE : rdE aP aS = if opQ aP aS = [] then 0 else ckA (red aP aS) := by unfold rdE; rw [if_neg h31]
  have hAd : rdA aP aS = if opQ aP aS = [] then ⟨aS.al, 0, [], []⟩ else canA (red aP aS) := rfl
  unfold red at hE hAd
  have hlen1 := clsOf_len aP aS (opQ aP aS)
  have hbd1 := clsOf_bd aP aS (opQ aP aS)
  rw [hnn] at hlen1 hbd1
  refine W_skip ?_
  have hB36 := (hB3.ext hs3).ext hs36
  have hB26 := ((hB2.ext hs2).ext hs3).ext hs36
  refine W_seq <| W_region (by rfl) ?_
  refine x (r_fieldB rfl) <| x (r_loadB hB36 rfl rfl) <| xl rfl <| xf <| (clone_ok (hsA.al.ext hW6)).mono ?_
  rintro vcl w8 ⟨hs8, hcl⟩
  have hclA := IntsO.ints (L := []) hcl (by omega) (by simp)
  refine x (r_build ⟨hclA.cells, trivial⟩) <| xl rfl <| o_alloc (us := [.slice none 0 0, .int .i64 0, .slice none 0 0, .slice none 0 0]) rfl fun b9 w9 hs9 hb9 hB9 =>
    xl rfl <| o_stores (us := [vcl, .int .i64 0, .slice none 0 0, .slice none 0 0]) hB9 rfl rfl rfl rfl ⟨hclA.one, rfl, rfl, rfl, trivial⟩ fun w10 hs10 hB10 => xe ?_
  have hs810 : Step [] w8 w10 := hs9.then1 hs10 hb9
  have hs610 := hs8.trans hs810
  have hW10 := hW6.trans hs610
  have hT10 : Tups [] w10.heap vt qs := ((hqs [] (by simp)).ext hs46).ext hs610
  have hz8 := hs8.size
  have hz810 := hs810.size
  have hl9 := hB10.lt
  have hclt := own_lt hcl
  refine W_seq <| W_region (by rfl) ?_
  refine x (r_loadsB (hB26.ext hs610) rfl rfl) <| x (r_loadsB (hB36.ext hs610) rfl rfl) <| x r_move <| xl rfl <| xf <| (classes_ok ((hp.ext hW10).up (L' := []) (fun _ hb => by cases hb)) ((hsA.ext hW10).up (L' := []) (fun _ hb => by cases hb)) o1 o2 hT10 (fun q hq => hv q.2 (by rw [← hqe]; exact List.mem_map_of_mem hq)) hqsl).mono ?_
  rintro r11 w11 ⟨hs11, vk, vl, rfl, hK, hCF, hCb⟩
  refine x r_move <| x (r_extract rfl rfl) <| x (r_extract rfl rfl) <| x r_assign <| x r_assign <| xe ?_
  rw [hqe] at hK hCF hCb
  have hs611 := hs610.trans hs11
  have hW11 := hW10.trans hs11
  have hB411 := hB46.ext hs611
  have hB911 := hB10.ext hs11
  have hz11 := hs11.size
  have hT11 := hT10.ext hs11
  have hcl11 := own_ext hcl (hs810.trans hs11)
  refine W_seq <| W_seq <| W_region (by rfl) ?_
  refine x r_move <| x (r_lenA hT11.arr rfl) <| x (r_eql rfl rfl) <| xe ?_
  refine W_if rfl (fun h47 => ?_) (fun h47 => ?_)
  · have hq0 : opQ aP aS = [] := by rw [← hqe]; have : qs = [] := List.length_eq_zero_iff.1 (by omega); rw [this]; rfl
    rw [if_pos hq0] at hE hAd
    refine W_seq <| W_region (by rfl) ?_
    refine x (r_loadsB hB911 rfl rfl) <| xl rfl <| o_stores (us := [vcl, .int .i64 0, .slice none 0 0, .slice none 0 0]) hB411 rfl rfl rfl rfl ⟨hclA.one, rfl, rfl, rfl, trivial⟩ fun w12 hs12 hB12 => x r_assign <| xe ?_
    refine W_ret ⟨[.agg #[vcl, .int .i64 0, .slice none 0 0, .slice none 0 0], .int .i64 0], ⟨⟨_, rfl, run_loadVar_ag rfl (hB12.at (L := []) (by simp)).cells⟩, rfl, trivial⟩, hW11.then1 hs12 (by omega), _, by rw [hE]; rfl, fun e => absurd hE e, fun _ => ?_⟩
    rw [hAd]
    have hcl12 := own_step hcl11 hs12 (fun b hb => by have := (own_ge hcl b hb).1; simp; omega)
    exact ⟨vcl, _, _, rfl, fun L' hL' => ⟨IntsO.ints hcl12 (by show aS.al.length ≤ _; omega) (fun b hb => by have := hL' b hb; omega), Arr.nil _ _ _, Arr.nil _ _ _⟩⟩
  have hqne : opQ aP aS ≠ [] := fun e => h47 (by rw [← hqe] at e; have := List.map_eq_nil_iff.1 e; rw [this]; rfl)
  rw [if_neg hqne] at hE hAd
  have hn0 : 0 < n := by
    cases hq1 : opQ aP aS with
    | nil => exact absurd hq1 hqne
    | cons t _ =>
      obtain ⟨_, y, _, _, hy⟩ := Vt2 (hv t (by rw [hq1]; exact List.mem_cons_self))
      omega
  -- plain names for what was computed
  refine exE (clsOf aP aS (opQ aP aS)) fun cls hcls => ?_
  refine exE (ctls aP aS (opQ aP aS)) fun l hlE => ?_
  have hll : l.length = n := by rw [← hlE, ctls_len, hnn]
  rw [hcls] at hK hE hAd hlen1 hbd1
  rw [hlE] at hCF hCb hE hAd
  unfold redA at hE hAd
  obtain ⟨cs, hcs, hCs⟩ := hCF
  have hcsl : cs.length = n := by rw [← hcs] at hll; simpa using hll
  have hmaxm := maxI_mem (l := cls) (by omega)
  have hmaxb := hbd1 _ hmaxm
  obtain ⟨S, hS⟩ : ∃ S : Nat, maxI cls + 1 = S := ⟨(maxI cls + 1).toNat, by omega⟩
  rw [hS, Int.toNat_natCast] at hE hAd
  have hKA := IntsO.ints (L := []) hK (by omega) (by simp)
  refine W_skip ?_
  refine W_seq <| W_region (by rfl) ?_
  refine x r_move <| xl rfl <| xf <| (Max_ok hKA (by omega)).mono ?_
  rintro r13 w13 ⟨rfl, rfl⟩
  refine x (r_add rfl rfl ⟨by omega, by omega⟩) <| x (r_fieldB rfl) <| xl rfl <| o_store (u := .int .i64 S) hB911 rfl (congrArg (Value.int .i64) hS) (by simp) rfl fun w14 hs14 hB14 =>
    xe ?_
  refine W_seq <| W_region (by rfl) ?_
  have hB314 := (hB36.ext hs611).step hs14 (by simp; have := hB3.lt; omega)
  have hed14 : Eds [b9] w14.heap se aS.ed := (((hsA.ed.up (L' := [b9]) (fun b hb => .inr (by simp at hb; omega))).ext hW11).st hs14)
  refine xl rfl <| o_makeMap kPair fun b53 w15 hs15 hb53 hm53 => x (r_loadsB (hB314.ext hs15) rfl rfl) <| xl rfl <| xf <| (steps_ok (hed14.ext hs15)).mono ?_
  rintro r16 wS ⟨hs16, bs, rfl, hbs, hms⟩
  refine x r_assign <| x r_assign <| xe ?_
  have hs1416 := hs15.trans hs16
  have hz14 := hs14.size
  have hz15 := hs15.size
  have hz16 := hs16.size
  have hl53 := hm53.lt
  have hlbs := hms.lt
  have hS11 : Step [b9] w13 wS := hs14.trans hs1416
  have hWS : Step [] w wS := hW11.then1 hS11 (by omega)
  -- what is read from here on
  have hKS : Ints [b9, b53] wS.heap vk cls := by
    have h1 : Ints [b9] w13.heap vk cls := IntsO.ints hK (by omega) (fun b hb => by simp at hb; omega)
    have h2 : Ints [b9, b53] w13.heap vk cls := h1.up (fun b hb => by
      simp only [List.mem_cons, List.not_mem_nil, or_false] at hb
      rcases hb with rfl | rfl
      · exact .inl (by simp)
      · exact .inr (by omega))
    exact h2.step hS11 (by simp)
  have hCS : Ctls [b9, b53] wS.heap vl cs := by
    have h1 : Ctls [b9] w13.heap vl cs := hCs [b9] (fun b hb => by simp at hb; omega)
    have h2 : Ctls [b9, b53] w13.heap vl cs := h1.up (fun b hb => by
      simp only [List.mem_cons, List.not_mem_nil, or_false] at hb
      rcases hb with rfl | rfl
      · exact .inl (by simp)
      · exact .inr (by omega))
    exact h2.st (hS11.mono (by simp))
  have halS : Ints [b9, b53] wS.heap sa aS.al := by
    refine (hsA.al.up (L' := [b9, b53]) (fun b hb => .inr ?_)).ext hWS
    simp only [List.mem_cons, List.not_mem_nil, or_false] at hb
    omega
  have hclS : Ints [b9, b53] wS.heap vcl aS.al := by
    have h1 : Ints [] w8.heap vcl aS.al := hclA
    have h2 : Ints [b9, b53] w8.heap vcl aS.al := h1.up (fun b hb => .inr (by
      simp only [List.mem_cons, List.not_mem_nil, or_false] at hb
      omega))
    exact (h2.ext (hs810.trans hs11)).step hS11 (by simp)
  have hBS9 : Blk wS.heap b9 35 [vcl, .int .i64 S, .slice none 0 0, .slice none 0 0] := hB14.ext hs1416
  have hB3S := hB314.ext hs1416
  have hB4S := hB411.step hS11 (by simp; omega)
  have hmS := hm53.ext hs16
  have n3 : b3 ∉ [b9, b53] := by have := hB3.lt; simp; omega
  have n4 : b4 ∉ [b9, b53] := by simp; omega
  have nbs : bs ∉ [b9, b53] := by simp; omega
  refine exE (redZ aS l cls) fun Z hZ => ?_
  rw [hZ] at hE hAd
  unfold redZ at hZ
  rw [hlen1] at hZ
  have hKSn : Arr [b9, b53] wS.heap vk n 1 (cls.map (.int .i64)) := by rw [← hlen1]; exact hKS
  -- marks and edges by class
  refine W_cut (α := Value) [(14, 15), (17, 17), (56, 106)] (fun z => []) (fun z w' => Step [b9, b53] wS w' ∧ Blk w'.heap b9 35 [vcl, .int .i64 S, z, .slice none 0 0] ∧ MapB kPair w'.heap b53 (genc Z.2) ∧ IntsO 3 wS.heap.size w' z Z.1 ∧ Z.1.length ≤ n) (by rfl) ?_ ?_
  · refine W_seq <| W_region (by rfl) ?_
    refine x r_move <| x (r_lenA hKSn rfl) <| x r_move <| xe ?_
    refine W_block <| W_loop (α := Nat × (List Int × List ((Int × Int) × Int)) × Value) [(14, 15), (17, 17), (58, 106)] (fun z => [(58, .int .i64 z.1)])
      (fun z w' => z.1 ≤ n ∧ Step [b9, b53] wS w' ∧ Blk w'.heap b9 35 [vcl, .int .i64 S, z.2.2, .slice none 0 0] ∧ MapB kPair w'.heap b53 (genc z.2.1.2) ∧ IntsO 3 wS.heap.size w' z.2.2 z.2.1.1 ∧ z.2.1.1.length ≤ z.1 ∧
        (List.range' z.1 (n - z.1)).foldl (redX aS l cls) z.2.1 = Z)
      (fun z => n - z.1) (by rfl) (0, ([], []), .slice none 0 0) ⟨rfl, trivial⟩ ⟨Nat.zero_le _, Step.refl _ _, hBS9, hmS, own_nil _ _ _ _, Nat.zero_le _, hZ⟩ ?_
    rintro ⟨i, z, vm⟩ g17 w17 ⟨hi, hs17, hB17, hm17, hv17, hl17, hr17⟩
    simp only [] at hi hB17 hm17 hv17 hl17 hr17
    refine W_seq <| W_region (by rfl) ?_
    refine x (r_lss rfl rfl) <| xe ?_
    refine W_seq <| W_ifn rfl (fun h59 => ?_) (fun h59 => ?_)
    · refine W_exit ?_
      rw [rng_nil (by omega)] at hr17
      have hr17' : z = Z := hr17
      rw [hr17'] at hm17 hv17 hl17
      exact ⟨vm, trivial, hs17, hB17, hm17, hv17, by omega⟩
    have hlt : i < n := by omega
    rw [rng_cons hlt, List.foldl_cons] at hr17
    have hci : i < cls.length := by omega
    have hcv : i < cs.length := by omega
    refine exE (cget cls i) fun c hc => ?_
    have hcb := hbd1 _ (cget_mem hci)
    rw [hc] at hcb
    refine exE (redX aS l cls z i) fun Z1 hZ1 => ?_
    rw [hZ1] at hr17
    unfold redX at hZ1
    rw [hc] at hZ1
    have hlgi : lget l i = (cs[i]'hcv).c := lget_cv hcs hcv
    have hCi := (hCS.st hs17).each _ (List.getElem_mem hcv)
    have hCbi := hCb _ (by rw [← hcs]; exact List.mem_map_of_mem (List.getElem_mem hcv))
    refine exE (cs[i]'hcv) fun ci hcie => ?_
    rw [hcie] at hlgi hCi hCbi
    rw [hlgi] at hZ1
    refine exE (if (ci.c.mk' && ci.c.ps) = true then uni1 z.1 c else z.1) fun mr hmr => ?_
    rw [hmr] at hZ1
    have hul := uni1_len z.1 c
    have hmkc := Bool.eq_false_or_eq_true ci.c.mk'
    have hmrl : mr.length ≤ i + 1 := by rw [← hmr]; split <;> omega
    have hKi := hKS.st hs17
    have hCa := (hCS.st hs17).arr
    have hz17 := hs17.size
    refine W_skip ?_
    refine W_seq <| W_block <| W_seq <| W_region (by rfl) ?_
    refine x r_move <| xic hKi rfl rfl hci fun a61 h61 => ?_
    rw [hc] at h61
    refine x (r_loadA h61 rfl) <| x r_assign <| x r_assign <| xe ?_
    refine W_seq <| W_seq <| W_region (by rfl) ?_
    refine x r_move <| x (r_lss rfl rfl) <| xe ?_
    refine W_if rfl (fun h64 => ?_) (fun h64 => ?_)
    · rw [if_pos h64] at hZ1
      refine W_exit ?_
      refine W_region (by rfl) ?_
      refine x (r_add rfl rfl ⟨by omega, by omega⟩) <| x r_move <| xe ?_
      refine ⟨(i + 1, z, vm), by simp only []; omega, ⟨rfl, trivial⟩, hlt, hs17, hB17, hm17, hv17, by simp only []; omega, ?_⟩
      simp only []
      rw [hZ1]; exact hr17
    rw [if_neg h64] at hZ1
    refine W_skip ?_
    refine W_cut (α := Value) [(65, 82)] (fun z => []) (fun z' w' => Step [b9, b53] wS w' ∧ Blk w'.heap b9 35 [vcl, .int .i64 S, z', .slice none 0 0] ∧ MapB kPair w'.heap b53 (genc z.2) ∧ IntsO 3 wS.heap.size w' z' mr) (by rfl) ?_ ?_
    · refine W_cut (α := Unit) [(65, 76)] (fun _ => [(76, .bool (ci.c.mk' && ci.c.ps))]) (fun _ w' => w' = w17) (by rfl) ?_ ?_
      · refine Or.elim hmkc (fun hm1 => ?_) (fun hm1 => ?_)
        · refine W_region (by rfl) ?_
          refine x r_move <| x r_move <| xig (g := cvCells) (i := i) cv_len hCa rfl rfl hcv fun a67 h67 => ?_
          rw [hcie] at h67
          have h67' : At [b9, b53] w17.heap (a67.add 2) [.bool true] := h67.fld 2 _ (congrArg (fun b => some (Value.bool b)) hm1)
          refine x (r_field rfl) <| x (r_loadA h67' rfl) <| x r_move <| x r_move <| x r_move <| xig (g := cvCells) (i := i) cv_len hCa rfl rfl hcv fun a73 h73 => ?_
          rw [hcie] at h73
          refine x (r_field rfl) <| x (r_loadA (h73.fld 3 _ rfl) rfl) <| x (r_pick rfl) <| xe ?_
          exact ⟨(), ⟨congrArg Value.bool (by rw [hm1]; rfl), trivial⟩, rfl⟩
        · refine W_region (by rfl) ?_
          refine x r_move <| x r_move <| xig (g := cvCells) (i := i) cv_len hCa rfl rfl hcv fun a67 h67 => ?_
          rw [hcie] at h67
          have h67' : At [b9, b53] w17.heap (a67.add 2) [.bool false] := h67.fld 2 _ (congrArg (fun b => some (Value.bool b)) hm1)
          refine x (r_field rfl) <| x (r_loadA h67' rfl) <| x r_move <| xs rfl <| xs rfl <| xs rfl <| xs rfl <| xs rfl <| x (r_pick rfl) <| xe ?_
          exact ⟨(), ⟨congrArg Value.bool (by rw [hm1]; rfl), trivial⟩, rfl⟩
      rintro _ g25 w25 rfl
      refine W_cond rfl (fun h76 => ?_) (fun h76 => ?_)
      rotate_left
      · rw [if_neg (by rw [h76]; simp)] at hmr
        refine W_skip ?_
        exact ⟨vm, trivial, hs17, hB17, hm17, by rw [← hmr]; exact hv17⟩
      rw [if_pos h76] at hmr
      refine W_region (by rfl) ?_
      refine x (r_fieldB rfl) <| x (r_loadB hB17 rfl rfl) <| x r_move <| xl rfl <| o_lits (us := [[.int .i64 c]]) rfl rfl (by decide) (by simp) ⟨rfl, rfl, trivial⟩ fun b80 w26 hs26 hb80 hB80 => ?_
      have hV : Ints [] w26.heap (.slice (some ⟨b80, 0, none⟩) 1 1) [c] := hB80.arr (by simp) rfl (by simp) (by simp)
      refine xl rfl <| xf <| (Union_ok (IntsO.ints (L := []) (own_ext hv17 hs26) (by omega) (by simp)) hV (by simp; omega)).mono ?_
      rintro vU w27 ⟨hs27, hU⟩
      have hs2627 := hs26.trans hs27
      have hUA := IntsO.ints (L := []) (l := uni1 z.1 c) hU (by omega) (by simp)
      refine x (r_fieldB rfl) <| xl rfl <| o_store (u := vU) (hB17.ext hs2627) rfl rfl (by simp) hUA.one fun w28 hs28 hB28 =>
        xe ?_
      have hz26 := hs26.size
      have hU' : IntsO 3 wS.heap.size w27 vU (uni1 z.1 c) := own_base hU (by omega)
      refine ⟨vU, trivial, (hs17.trans hs2627).then hs28 (fun b hb => .inl (by simp at hb; simp [hb])), hB28, (hm17.ext hs2627).step hs28 (by simp; omega), ?_⟩
      rw [← hmr]
      exact own_step hU' hs28 (fun b hb => by have := (own_ge hU' b hb).1; simp; omega)
    rintro vm2 g29 w29 ⟨hs29, hB29, hm29, hv29⟩
    have hCa29 := (hCS.st hs29).arr
    have hen := ((hCS.st hs29).each _ (List.getElem_mem hcv)).en
    rw [hcie] at hen
    refine W_seq <| W_region (by rfl) ?_
    refine x r_move <| x r_move <| xig (g := cvCells) (i := i) cv_len hCa29 rfl rfl hcv fun a85 h85 => ?_
    rw [hcie] at h85
    refine x (r_field rfl) <| x (r_loadA (h85.fld 0 _ rfl) rfl) <| x (r_lenA hen rfl) <|
      x r_move <| xe ?_
    refine W_block <| W_loop (α := Nat × List ((Int × Int) × Int)) [(17, 17), (89, 105)] (fun z => [(89, .int .i64 z.1)])
      (fun y w' => y.1 ≤ ci.c.en.length ∧ Step [b53] w29 w' ∧ MapB kPair w'.heap b53 (genc y.2) ∧ (ci.c.en.drop y.1).foldl (redE aS cls i) y.2 = Z1.2) (fun y => ci.c.en.length - y.1) (by rfl) (0, z.2) ⟨rfl, trivial⟩
      ⟨Nat.zero_le _, Step.refl _ _, hm29, by rw [← hZ1]; rfl⟩ ?_
    rintro ⟨j, m⟩ g30 w30 ⟨hj, hs30, hm30, hr30⟩
    simp only [] at hj hm30 hr30
    have hs30' : Step [b9, b53] wS w30 := hs29.then hs30 (fun b hb => .inl (by simp at hb; simp [hb]))
    refine W_seq <| W_region (by rfl) ?_
    refine x (r_lss rfl rfl) <| xe ?_
    refine W_seq <| W_ifn rfl (fun h90 => ?_) (fun h90 => ?_)
    · refine W_exit ?_
      refine W_region (by rfl) ?_
      refine x (r_add rfl rfl ⟨by omega, by omega⟩) <| x r_move <| xe ?_
      rw [List.drop_of_length_le (by omega)] at hr30
      have hr30' : m = Z1.2 := hr30
      have hmr' : mr = Z1.1 := by rw [← hZ1]
      refine ⟨(i + 1, Z1, vm2), by simp only []; omega, ⟨rfl, trivial⟩, hlt, hs30', hB29.step hs30 (by simp; omega), ?_, ?_, ?_, hr17⟩
      · simp only []; rw [← hr30']; exact hm30
      · simp only []; rw [← hmr']; exact own_step hv29 hs30 (fun b hb => by have := (own_ge hv29 b hb).1; simp; omega)
      · simp only []; rw [← hmr']; exact hmrl
    have hltj : j < ci.c.en.length := by omega
    rw [List.drop_eq_getElem_cons hltj, List.foldl_cons, cget_eq hltj] at hr30
    refine exE (cget ci.c.en j) fun v hv' => ?_
    rw [hv'] at hr30
    have hut := to0_lt hsb hn0 i v
    refine exN hut.1 fun u hu => ?_
    have hre : redE aS cls i m v = gput m (c, v) (cget cls u) := by unfold redE; rw [hc, hu, Int.toNat_natCast]
    rw [hre] at hr30
    have hen30 := hen.step hs30 (X := [b53]) (by simp)
    have hK30 := hKS.st hs30'
    have hms30 := hms.step hs30' nbs
    refine W_skip ?_
    refine W_seq <| W_block <| W_seq <| W_region (by rfl) ?_
    refine xic hen30 rfl rfl hltj fun a91 h91 => ?_
    rw [hv'] at h91
    refine x (r_loadA h91 rfl) <| x r_assign <| xe ?_
    refine W_region (by rfl) ?_
    refine x r_move <| x r_move <| x r_move <| x (r_build ⟨rfl, rfl, trivial⟩) <| x r_move <| x r_move <| x r_move <| x r_move <| x (r_build ⟨rfl, rfl, trivial⟩) <|
      x (r_lookT hms30 o2.edi hu rfl rfl) <| xic (i := u) hK30 rfl rfl (by omega) fun a103 h103 => x (r_loadA h103 rfl) <| xl rfl <| o_update (k := (c, v)) hm30 rfl rfl fun w31 hs31 hm31 =>
      xe ?_
    refine W_region (by rfl) ?_
    refine x (r_add rfl rfl ⟨by omega, by omega⟩) <| x r_move <| xe ?_
    refine ⟨(j + 1, gput m (c, v) (cget cls u)), by simp only []; omega, ⟨rfl, trivial⟩, hltj, hs30.trans' hs31, ?_, hr30⟩
    simp only []
    rw [← genc_put]; exact hm31
  rintro vm g17 w17 ⟨hs17, hB17, hm17, hv17, hl17⟩
  -- the edges
  have hz17 := hs17.size
  refine exE (redR Z.2 aS.al S) fun E hEd => ?_
  rw [hEd] at hE hAd
  unfold redR at hEd
  have hal17 := halS.st hs17
  have hvlt := own_lt hv17
  refine W_seq <| W_seq <| W_region (by rfl) ?_
  refine x (r_fieldB rfl) <| x (r_loadB hB17 rfl rfl) <| x r_move <| xe ?_
  refine W_block <| W_loop (α := Nat × List Ed × Value) [(18, 18), (20, 22), (109, 138)] (fun z => [(109, .int .i64 z.1)])
    (fun z w' => z.1 ≤ S ∧ Step [b9] w17 w' ∧ Blk w'.heap b9 35 [vcl, .int .i64 S, vm, z.2.2] ∧ EdsO 85 w17.heap.size w' z.2.2 z.2.1 ∧ z.2.1.length ≤ z.1 * 32 ∧ z.2.1 ++ (List.range' z.1 (S - z.1)).flatMap (fun c => aS.al.filterMap (redF Z.2 c)) = E)
    (fun z => S - z.1) (by rfl) (0, [], .slice none 0 0) ⟨rfl, trivial⟩ ⟨Nat.zero_le _, Step.refl _ _, hB17, own_nil _ _ _ _, Nat.zero_le _, hEd⟩ ?_
  rintro ⟨k, es, vd⟩ g18 w18 ⟨hk, hs18, hB18, hd18, hdl, hr18⟩
  simp only [] at hk hB18 hd18 hdl hr18
  have hz18 := hs18.size
  refine W_seq <| W_region (by rfl) ?_
  refine x (r_lss rfl rfl) <| xe ?_
  refine W_seq <| W_ifn rfl (fun h110 => ?_) (fun h110 => ?_)
  · refine W_exit ?_
    rw [rng_nil (by omega)] at hr18
    have hr18' : es = E := by simpa using hr18
    have hA18 : AutA [] w18.heap vcl vm vd ⟨aS.al, (S : Int), Z.1, E⟩ := by
      refine ⟨?_, ?_, ?_⟩
      · exact ((hclS.st hs17).step hs18 (by simp)).up (fun _ hb => by cases hb)
      · exact IntsO.ints (own_step hv17 hs18 (fun b hb => by have := (own_ge hv17 b hb).1; simp; omega)) (by show Z.1.length ≤ _; omega) (by simp)
      · rw [← hr18']; exact EdsO.eds hd18 (by show es.length ≤ _; omega) (by simp)
    have hW18 : Step [] w w18 := (hWS.then hs17 (fun b hb => .inr (by simp only [List.mem_cons, List.not_mem_nil, or_false] at hb; omega))).then1 hs18 (by omega)
    have hB418 := (hB4S.step hs17 n4).step hs18 (by simp; omega)
    refine W_seq <| W_region (by rfl) ?_
    refine x (r_loadsB hB18 rfl rfl) <| xl rfl <| xf <| (Canonical_ok (a := ⟨aS.al, (S : Int), Z.1, E⟩) hA18).mono ?_
    rintro r19 w19 ⟨hs19, v, rfl, hbad, hgood⟩
    have hshape : ∃ us, v = .agg us.toArray ∧ us.length = 4 ∧ OnesL us := by
      by_cases e : ckA ⟨aS.al, (S : Int), Z.1, E⟩ = 0
      · exact AutF_shape (hgood e)
      · exact ⟨[.slice none 0 0, .int .i64 0, .slice none 0 0, .slice none 0 0], hbad e, rfl, rfl, rfl, rfl, rfl, trivial⟩
    obtain ⟨us, hvu, husl, hus⟩ := hshape
    refine x (r_extract rfl rfl) <| x (r_extract rfl rfl) <|
      xl rfl <| o_stores (us := us) (hB418.ext hs19) rfl hvu husl rfl hus fun w20 hs20 hB20 => x r_assign <| xe ?_
    have hzW := hW18.size
    refine W_ret ⟨[.agg us.toArray, .int .i64 (ckA ⟨aS.al, (S : Int), Z.1, E⟩)], ⟨⟨_, rfl, run_loadVar_ag husl (hB20.at (L := []) (by simp)).cells⟩, rfl, trivial⟩, (hW18.trans hs19).then1 hs20 (by omega), v, by rw [hE, hvu]; rfl, fun e => hbad (by rw [hE] at e; exact e), fun e => ?_⟩
    rw [hE] at e
    rw [hAd]
    exact (AutF_st1 (hgood e) (by omega) hs20).mono hzW
  have hlt : k < S := by omega
  rw [rng_cons hlt, List.flatMap_cons, ← List.append_assoc] at hr18
  refine exE (es ++ aS.al.filterMap (redF Z.2 k)) fun E1 hE1 => ?_
  rw [hE1] at hr18
  refine W_skip ?_
  refine W_seq <| W_block <| W_seq <| W_region (by rfl) ?_
  refine x r_move <| x r_assign <| xe ?_
  have hB318 := (hB3S.step hs17 n3).step hs18 (by have := hB3.lt; simp; omega)
  have hal18 := hal17.step hs18 (by simp)
  refine W_seq <| W_region (by rfl) ?_
  refine x (r_fieldB rfl) <| x (r_loadB hB318 rfl rfl) <| x (r_lenA hal18 rfl) <| x r_move <| xe ?_
  refine W_block <| W_loop (α := Nat × List Ed × Value) [(20, 22), (115, 137)] (fun z => [(115, .int .i64 z.1)])
    (fun z w' => z.1 ≤ aS.al.length ∧ Step [b9] w17 w' ∧ Blk w'.heap b9 35 [vcl, .int .i64 S, vm, z.2.2] ∧ EdsO 85 w17.heap.size w' z.2.2 z.2.1 ∧ z.2.1.length ≤ k * 32 + z.1 ∧ z.2.1 ++ (aS.al.drop z.1).filterMap (redF Z.2 k) = E1)
    (fun z => aS.al.length - z.1) (by rfl) (0, es, vd) ⟨rfl, trivial⟩ ⟨Nat.zero_le _, hs18, hB18, hd18, hdl, hE1⟩ ?_
  clear hB18 hd18 hE1 hdl hs18 hz18 hal18 hB318
  rintro ⟨j, fs, ve⟩ g21 w21 ⟨hj, hs21, hB21, hd21, hfl, hr21⟩
  simp only [] at hj hB21 hd21 hfl hr21
  have hz21 := hs21.size
  refine W_seq <| W_region (by rfl) ?_
  refine x (r_lss rfl rfl) <| xe ?_
  refine W_seq <| W_ifn rfl (fun h116 => ?_) (fun h116 => ?_)
  · refine W_exit ?_
    refine W_region (by rfl) ?_
    refine x (r_add rfl rfl ⟨by omega, by omega⟩) <| x r_move <| xe ?_
    rw [List.drop_of_length_le (by omega)] at hr21
    have hr21' : fs = E1 := by simpa using hr21
    refine ⟨(k + 1, fs, ve), by simp only []; omega, ⟨rfl, trivial⟩, hlt, hs21, hB21, hd21, by simp only []; omega, ?_⟩
    simp only []
    rw [hr21']; exact hr18
  have hltj : j < aS.al.length := by omega
  rw [List.drop_eq_getElem_cons hltj, cget_eq hltj] at hr21
  refine exE (cget aS.al j) fun v hv' => ?_
  rw [hv', List.filterMap_cons] at hr21
  have hal21 := hal17.step hs21 (by simp)
  have hm21 := hm17.step hs21 (by simp; omega)
  refine gget_elim Z.2 ((k : Int), v) (fun hg1 hg2 => ?_) (fun t hg1 hg2 => ?_)
  · have hrf : redF Z.2 k v = none := by unfold redF; rw [hg2]; rfl
    rw [hrf] at hr21
    refine W_skip ?_
    refine W_seq <| W_block <| W_seq <| W_region (by rfl) ?_
    refine xic hal21 rfl rfl hltj fun a117 h117 => ?_
    rw [hv'] at h117
    refine x (r_loadA h117 rfl) <| x r_assign <| xe ?_
    refine W_seq <| W_region (by rfl) ?_
    refine x r_move <| x r_move <| x r_move <| x (r_build ⟨rfl, rfl, trivial⟩) <| x (r_lookupN (k := ((k : Int), v)) hm21 rfl rfl hg1) <| x r_move <| x (r_extract rfl rfl) <| x (r_extract rfl rfl) <|
      x r_assign <| x r_assign <| xe ?_
    refine W_seq <| W_region (by rfl) ?_
    refine x r_move <| xe ?_
    refine W_false rfl ?_
    refine W_skip ?_
    refine W_region (by rfl) ?_
    refine x (r_add rfl rfl ⟨by omega, by omega⟩) <| x r_move <| xe ?_
    exact ⟨(j + 1, fs, ve), by simp only []; omega, ⟨rfl, trivial⟩, hltj, hs21, hB21, hd21, by simp only []; omega, hr21⟩
  have hrf : redF Z.2 k v = some ((k : Int), v, t) := by unfold redF; rw [hg2]; rfl
  rw [hrf] at hr21
  refine W_skip ?_
  refine W_seq <| W_block <| W_seq <| W_region (by rfl) ?_
  refine xic hal21 rfl rfl hltj fun a117 h117 => ?_
  rw [hv'] at h117
  refine x (r_loadA h117 rfl) <| x r_assign <| xe ?_
  refine W_seq <| W_region (by rfl) ?_
  refine x r_move <| x r_move <| x r_move <| x (r_build ⟨rfl, rfl, trivial⟩) <| x (r_lookupS (k := ((k : Int), v)) hm21 rfl rfl hg1) <| x r_move <| x (r_extract rfl rfl) <| x (r_extract rfl rfl) <|
    x r_assign <| x r_assign <| xe ?_
  refine W_seq <| W_region (by rfl) ?_
  refine x r_move <| xe ?_
  refine W_true rfl ?_
  refine W_region (by rfl) ?_
  refine x (r_fieldB rfl) <| x (r_loadB hB21 rfl rfl) <| x r_move <| x r_move <| x r_move <| x (r_build ⟨rfl, rfl, rfl, trivial⟩) <| xl rfl <| o_lits (us := [edCells ((k : Int), v, t)]) rfl rfl (by decide) (by exact (by decide : 1 * 3 ≤ 1000000)) ⟨rfl, rfl, trivial⟩ fun b134 w22 hs22 hb134 hB134 => ?_
  have hd22 := own_ext hd21 hs22
  have hz22 := hs22.size
  refine xl rfl <| o_app (news := edCells ((k : Int), v, t)) (L := []) hd22 rfl rfl rfl (hB134.at (by simp)) (fun y hy => by simp only [edCells, List.mem_cons, List.not_mem_nil, or_false] at hy; rcases hy with rfl | rfl | rfl <;> rfl) (by omega) (by omega) fun v23 w23 ho23 hs23 hn23 => ?_
  have ho23' : EdsO 85 w17.heap.size w23 v23 (fs ++ [((k : Int), v, t)]) := EdsO.snoc ho23
  have hB23 := (hB21.ext hs22).step hs23 (own_notin hd21 (by omega))
  refine x (r_fieldB rfl) <| xl rfl <| o_store hB23 rfl rfl (by simp) (EdsO.eds (L := []) ho23' (by simp; omega) (by simp)).one fun w24 hs24 hB24 =>
    xe ?_
  refine W_region (by rfl) ?_
  refine x (r_add rfl rfl ⟨by omega, by omega⟩) <| x r_move <| xe ?_
  have hge21 := own_ge hd21
  refine ⟨(j + 1, fs ++ [((k : Int), v, t)], v23), by simp only []; omega, ⟨rfl, trivial⟩, hltj, ((hs21.trans hs22).then hs23 (fun b hb => .inr (hge21 b hb).1)).trans' hs24, hB24, own_step ho23' hs24 (fun b hb => by have := (own_ge ho23' b hb).1; simp; omega), by simp; omega, ?_⟩
  simp only [List.append_assoc, List.singleton_append]
  exact hr21
end Go.Proofs.YtfhgnlkdcdlblaaGreatDoor
/- The examples of the chapter, computed. -/
namespace Go.Proofs.YtfhgnlkdcdlblaaGreatDoor
open Go.Lg

def exP : Aut := ⟨[0, 1], 2, [0, 1], [(0, 0, 1), (1, 0, 1), (1, 1, 0)]⟩
def exL : Aut := ⟨[0, 1], 2, [0, 1], [(0, 0, 1), (1, 1, 0)]⟩
def exS : Aut := ⟨[0, 1], 3, [0, 1, 2], [(0, 0, 1), (1, 0, 2), (1, 1, 0), (2, 1, 0)]⟩
theorem exPS_E : opE exP exS = 0 := by rfl
theorem exPS_C : ctls exP exS (opQ exP exS) = [⟨[0], [], true, true⟩, ⟨[0, 1], [], true, true⟩, ⟨[1], [0], true, true⟩] := by rfl
theorem exPS_K : clsOf exP exS (opQ exP exS) = [0, 1, 2] := by rfl
theorem exLS_E : rdE exL exS = 0 := by rfl
theorem exLS_A : rdA exL exS = ⟨[0, 1], 1, [0], [(0, 0, 0), (0, 1, 0)]⟩ := by rfl
end Go.Proofs.YtfhgnlkdcdlblaaGreatDoor
/- Contracts: overseerlaw30's example and known; word.Equal. -/
namespace Go.Proofs.YtfhgnlkdcdlblaaGreatDoor
open Go.Lg

theorem wEqual_ok {L L' : List Nat} {w : World} {v v' : Value} {l l' : List Int} (h : Ints L w.heap v l) (h' : Ints L' w.heap v' l') :
    Ret Tryz.prog 9 [v, v'] w fun r w' => r = .bool (decide (l = l')) ∧ Step [] w w' := by
  refine Ret.of_W Tryz.func9 rfl Tryz.ntmps9 Tryz.results9 (by simp) ?_
  refine W_seq <| W_region (by rfl) ?_
  refine x r_assign <| xe ?_
  refine W_seq <| W_region (by rfl) ?_
  refine x r_move <| x r_move <| xl rfl <| xf <| (equalI_ok h h').mono ?_
  rintro r1 w1 ⟨rfl, hs1⟩
  refine x r_assign <| xe ?_
  exact W_ret ⟨[.bool (decide (l = l'))], ⟨rfl, trivial⟩, rfl, hs1⟩

/-- An automaton whose three lists are new blocks. -/
theorem AutF_lits {N : Nat} {H : Array Obj} {a : Aut} {b1 b2 b3 n1 n2 n3 : Nat} (h1 : Blk H b1 3 (a.al.map (.int .i64))) (h2 : Blk H b2 3 (a.mr.map (.int .i64))) (h3 : Blk H b3 85 (a.ed.flatMap edCells)) (g1 : N ≤ b1) (g2 : N ≤ b2) (g3 : N ≤ b3)
    (l1 : a.al.length = n1) (l2 : a.mr.length = n2) (l3 : a.ed.length = n3) (m1 : n1 ≤ 1000) (m2 : n2 ≤ 1000) (m3 : n3 ≤ 1000) :
    AutF N H (.agg #[.slice (some ⟨b1, 0, none⟩) n1 n1, .int .i64 a.st, .slice (some ⟨b2, 0, none⟩) n2 n2, .slice (some ⟨b3, 0, none⟩) n3 n3]) a := by
  subst l1 l2 l3
  refine ⟨_, _, _, rfl, fun L hL => ⟨?_, ?_, ?_⟩⟩
  · exact h1.arr (fun hb => by have := hL _ hb; omega) (by simp) (by omega) (Nat.le_refl _)
  · exact h2.arr (fun hb => by have := hL _ hb; omega) (by simp) (by omega) (Nat.le_refl _)
  · exact h3.arr (fun hb => by have := hL _ hb; omega) (by rw [flat_len _ 3 edCells_len]) (by omega) (Nat.le_refl _)
def exA (again : Bool) : Aut := bif again then exP else exL

set_option maxHeartbeats 1000000 in
theorem example_ok (again : Bool) (w : World) : Ret Tryz.prog 25 [.bool again] w fun r w' => Step [] w w' ∧ ∃ v1 v2, r = .tuple #[v1, v2] ∧ AutF w.heap.size w'.heap v1 (exA again) ∧ AutF w.heap.size w'.heap v2 exS := by
  refine Ret.of_W Tryz.func25 rfl Tryz.ntmps25 Tryz.results25 (by simp) ?_
  refine W_seq <| W_region (by rfl) ?_
  refine xl rfl <| o_alloc (us := [.slice none 0 0, .int .i64 0, .slice none 0 0, .slice none 0 0]) rfl fun b2 w1 hs1 hb2 hB2 => xl rfl <| o_alloc (us := [.slice none 0 0, .int .i64 0, .slice none 0 0, .slice none 0 0]) rfl fun b3 w2 hs2 hb3 hB3 => xe ?_
  have hz1 := hs1.size
  have hz2 := hs2.size
  have hl2 := hB2.lt
  have hl3 := hB3.lt
  have hs12 := hs1.trans hs2
  have hB22 := hB2.ext hs2
  refine W_seq <| W_region (by rfl) ?_
  refine xl rfl <| o_lits (us := [[.int .i64 0], [.int .i64 1]]) rfl rfl (by decide) (by decide) ⟨rfl, rfl, rfl, rfl, trivial⟩ fun b4 w3 hs3 hb4 hB4 => xl rfl <| o_lits (us := [[.int .i64 0], [.int .i64 1]]) rfl rfl (by decide) (by decide) ⟨rfl, rfl, rfl, rfl, trivial⟩ fun b5 w4 hs4 hb5 hB5 =>
    x (r_build ⟨rfl, rfl, rfl, trivial⟩) <| x (r_build ⟨rfl, rfl, rfl, trivial⟩) <| x (r_build ⟨rfl, rfl, rfl, trivial⟩) <| xl rfl <| o_lits (us := [edCells (0, 0, 1), edCells (1, 0, 1), edCells (1, 1, 0)]) rfl rfl (by decide) (by exact (by decide : 3 * 3 ≤ 1000000)) ⟨rfl, rfl, rfl, rfl, rfl, rfl, trivial⟩ fun b9 w5 hs5 hb9 hB9 => ?_
  have hs25 := (hs3.trans hs4).trans hs5
  refine x (r_build ⟨rfl, rfl, rfl, rfl, trivial⟩) <| xl rfl <| o_stores (us := [.slice (some ⟨b4, 0, none⟩) 2 2, .int .i64 2, .slice (some ⟨b5, 0, none⟩) 2 2, .slice (some ⟨b9, 0, none⟩) 3 3]) (hB22.ext hs25) rfl rfl rfl rfl ⟨rfl, rfl, rfl, rfl, trivial⟩ fun w6 hs6 hB6 => xe ?_
  have hz3 := hs3.size
  have hz4 := hs4.size
  have hz5 := hs5.size
  have hl4 := hB4.lt
  have hl5 := hB5.lt
  have hl9 := hB9.lt
  have hs26 : Step [b2] w2 w6 := (hs25.any (L := [b2])).trans' hs6
  have hW6 : Step [] w w6 := (hs12.trans hs25).then1 hs6 hb2
  have hB36 := (hB3.ext hs25).step hs6 (by simp; omega)
  have hB46 : Blk w6.heap b4 3 ([0, 1].map (.int .i64)) := ((hB4.ext hs4).ext hs5).step hs6 (by simp; omega)
  have hB56 : Blk w6.heap b5 3 ([0, 1].map (.int .i64)) := (hB5.ext hs5).step hs6 (by simp; omega)
  have hB96 : Blk w6.heap b9 85 ([(0, 0, 1), (1, 0, 1), (1, 1, 0)].flatMap edCells) := hB9.step hs6 (by simp; omega)
  -- the edges of the plant
  refine W_cut (α := Nat) [(11, 16)] (fun z => []) (fun z w' => Step [b2] w6 w' ∧ w2.heap.size ≤ z ∧ z < w'.heap.size ∧ Blk w'.heap b2 35 [.slice (some ⟨b4, 0, none⟩) 2 2, .int .i64 2, .slice (some ⟨b5, 0, none⟩) 2 2, .slice (some ⟨z, 0, none⟩) (exA again).ed.length (exA again).ed.length] ∧
    Blk w'.heap z 85 ((exA again).ed.flatMap edCells)) (by rfl) ?_ ?_
  · refine W_seq <| W_region (by rfl) ?_
    refine x r_move <| x (r_not rfl) <| xe ?_
    refine W_cond rfl (fun h12 => ?_) (fun h12 => ?_)
    · have e : again = false := by simpa using h12
      refine W_region (by rfl) ?_
      refine x (r_build ⟨rfl, rfl, rfl, trivial⟩) <| x (r_build ⟨rfl, rfl, rfl, trivial⟩) <| xl rfl <| o_lits (us := [edCells (0, 0, 1), edCells (1, 1, 0)]) rfl rfl (by decide) (by exact (by decide : 2 * 3 ≤ 1000000)) ⟨rfl, rfl, rfl, rfl, trivial⟩ fun b15 w7 hs7 hb15 hB15 =>
        x (r_fieldB rfl) <| xl rfl <| o_store (u := .slice (some ⟨b15, 0, none⟩) 2 2) (hB6.ext hs7) rfl rfl (by simp) rfl fun w8 hs8 hB8 => xe ?_
      have hz6 := hs6.size
      have hz7 := hs7.size
      have hz8 := hs8.size
      have hl15 := hB15.lt
      refine ⟨b15, trivial, (hs7.any (L := [b2])).trans' hs8, by omega, by omega, ?_, ?_⟩
      · rw [e]; exact hB8
      · rw [e]; exact hB15.step hs8 (by simp; omega)
    · have e : again = true := by simpa using h12
      have hz6 := hs6.size
      refine W_skip ?_
      refine ⟨b9, trivial, Step.refl _ _, by omega, by omega, ?_, ?_⟩
      · rw [e]; exact hB6
      · rw [e]; exact hB96
  rintro be g9 w9 ⟨hs9, hbe, hlbe, hB9', hBe⟩
  have hz6 := hs6.size
  have hz9 := hs9.size
  have hW9 : Step [] w w9 := hW6.then1 hs9 hb2
  have hB39 := hB36.step hs9 (by simp; omega)
  have hB49 := hB46.step hs9 (by simp; omega)
  have hB59 := hB56.step hs9 (by simp; omega)
  refine W_seq <| W_region (by rfl) ?_
  refine xl rfl <| o_lits (us := [[.int .i64 0], [.int .i64 1]]) rfl rfl (by decide) (by decide) ⟨rfl, rfl, rfl, rfl, trivial⟩ fun b17 w10 hs10 hb17 hB17 => xl rfl <| o_lits (us := [[.int .i64 0], [.int .i64 1], [.int .i64 2]]) rfl rfl (by decide) (by decide) ⟨rfl, rfl, rfl, rfl, rfl, rfl, trivial⟩ fun b18 w11 hs11 hb18 hB18 =>
    x (r_build ⟨rfl, rfl, rfl, trivial⟩) <| x (r_build ⟨rfl, rfl, rfl, trivial⟩) <| x (r_build ⟨rfl, rfl, rfl, trivial⟩) <| x (r_build ⟨rfl, rfl, rfl, trivial⟩) <|
    xl rfl <| o_lits (us := [edCells (0, 0, 1), edCells (1, 0, 2), edCells (1, 1, 0), edCells (2, 1, 0)]) rfl rfl (by decide) (by exact (by decide : 4 * 3 ≤ 1000000)) ⟨rfl, rfl, rfl, rfl, rfl, rfl, rfl, rfl, trivial⟩ fun b23 w12 hs12' hb23 hB23 => ?_
  have hs912 := (hs10.trans hs11).trans hs12'
  refine x (r_build ⟨rfl, rfl, rfl, rfl, trivial⟩) <|
    xl rfl <| o_stores (us := [.slice (some ⟨b17, 0, none⟩) 2 2, .int .i64 3, .slice (some ⟨b18, 0, none⟩) 3 3, .slice (some ⟨b23, 0, none⟩) 4 4]) (hB39.ext hs912) rfl rfl rfl rfl ⟨rfl, rfl, rfl, rfl, trivial⟩ fun w13 hs13 hB13 => xe ?_
  have hz10 := hs10.size
  have hz11 := hs11.size
  have hz12 := hs12'.size
  have hz13 := hs13.size
  have hl17 := hB17.lt
  have hl18 := hB18.lt
  have hl23 := hB23.lt
  have hB213 := (hB9'.ext hs912).step hs13 (by simp; omega)
  refine W_seq <| W_draw (fun w' => Step [b2] w13 w' ∧ Blk w'.heap b2 35 [.slice (some ⟨b4, 0, none⟩) 2 2, .int .i64 2, .slice (some ⟨b5, 0, none⟩) 2 2, .slice (some ⟨be, 0, none⟩) (exA again).ed.length (exA again).ed.length]) [(0, true), (1, true), (2, false), (3, false)] Tryz.mixed (by rfl) (by kernel_rfl) ⟨Step.drew _ _, hB213.ext (Step.drew _ _)⟩ ?_
  refine pq (fun _ hc => r_loadsB hc.2 rfl rfl) <| pq (fun _ hc => r_loadsB (hB13.step hc.1 (by simp; omega)) rfl rfl) <|
    pk <| o_stores (us := [.slice (some ⟨b4, 0, none⟩) 2 2, .int .i64 2, .slice (some ⟨b5, 0, none⟩) 2 2, .slice (some ⟨be, 0, none⟩) (exA again).ed.length (exA again).ed.length]) (hB213.ext (Step.drew _ _)) rfl rfl rfl rfl ⟨rfl, rfl, rfl, rfl, trivial⟩ fun w14 hs14 hB14 => ⟨⟨(Step.drew [b2] w13).trans' hs14, hB14⟩, ?_⟩
  refine pkl (hl := by kernel_rfl) <| o_stores (us := [.slice (some ⟨b17, 0, none⟩) 2 2, .int .i64 3, .slice (some ⟨b18, 0, none⟩) 3 3, .slice (some ⟨b23, 0, none⟩) 4 4]) ((hB13.ext (Step.drew [] w13)).step hs14 (by simp; omega)) rfl rfl rfl rfl ⟨rfl, rfl, rfl, rfl, trivial⟩ fun w15 hs15 hB15 => pe ?_
  have hd := Step.drew [] w13
  have hB215 := hB14.step hs15 (by simp; omega)
  have mv : ∀ {b T : Nat} {cs : List Value}, Blk w12.heap b T cs → b ≠ b2 → b ≠ b3 → Blk w15.heap b T cs := fun h n2 n3 => (((h.step hs13 (by simpa using n3)).ext hd).step hs14 (by simpa using n2)).step hs15 (by simpa using n3)
  have hst : Step [] w w15 := (((hW9.trans hs912).then1 hs13 (by omega)).trans hd |>.then1 hs14 hb2).then1 hs15 (by omega)
  refine W_ret ⟨[.agg #[.slice (some ⟨b4, 0, none⟩) 2 2, .int .i64 2, .slice (some ⟨b5, 0, none⟩) 2 2, .slice (some ⟨be, 0, none⟩) (exA again).ed.length (exA again).ed.length], .agg #[.slice (some ⟨b17, 0, none⟩) 2 2, .int .i64 3, .slice (some ⟨b18, 0, none⟩) 3 3, .slice (some ⟨b23, 0, none⟩) 4 4]],
    ⟨⟨_, rfl, run_loadVar_ag rfl (hB215.at (L := []) (by simp)).cells⟩, ⟨_, rfl, run_loadVar_ag rfl (hB15.at (L := []) (by simp)).cells⟩, trivial⟩, hst, _, _, rfl, ?_, ?_⟩
  · have e1 : (exA again).al = [0, 1] := by cases again <;> rfl
    have e2 : (exA again).mr = [0, 1] := by cases again <;> rfl
    have e3 : (exA again).st = 2 := by cases again <;> rfl
    have e4 : (exA again).ed.length ≤ 3 := by cases again <;> decide
    have := AutF_lits (N := w.heap.size) (a := exA again) (b1 := b4) (b2 := b5) (b3 := be) (n1 := 2) (n2 := 2) (n3 := (exA again).ed.length) (by rw [e1]; exact mv (hB49.ext hs912) (by omega) (by omega)) (by rw [e2]; exact mv (hB59.ext hs912) (by omega) (by omega)) (mv (hBe.ext hs912) (by omega) (by omega)) (by omega) (by omega) (by omega) (by rw [e1]; rfl) (by rw [e2]; rfl) rfl (by omega) (by omega) (by omega)
    rw [e3] at this
    exact this
  · exact AutF_lits (a := exS) (mv ((hB17.ext hs11).ext hs12') (by omega) (by omega)) (mv (hB18.ext hs12') (by omega) (by omega)) (mv hB23 (by omega) (by omega)) (by omega) (by omega) (by omega) rfl rfl rfl (by decide) (by decide) (by decide)
end Go.Proofs.YtfhgnlkdcdlblaaGreatDoor
/- Contract: overseerlaw30.known. -/
namespace Go.Proofs.YtfhgnlkdcdlblaaGreatDoor
open Go.Lg

theorem CtlF.three {N : Nat} {H : Array Obj} {v : Value} {c0 c1 c2 : Ctl} (h : CtlF N H v [c0, c1, c2]) : ∃ d0 d1 d2 : CV, d0.c = c0 ∧ d1.c = c1 ∧ d2.c = c2 ∧ Ctls [] H v [d0, d1, d2] := by
  obtain ⟨cs, h1, h2⟩ := h
  have := h2 [] (by simp)
  match cs, h1, this with
  | [d0, d1, d2], h1, h3 =>
    simp only [List.map_cons, List.map_nil, List.cons.injEq, and_true] at h1
    exact ⟨d0, d1, d2, h1.1, h1.2.1, h1.2.2, h3⟩

set_option maxHeartbeats 2000000 in
theorem known_ok (w : World) : Ret Tryz.prog 5 [] w fun r w' => r = .bool true ∧ Step [] w w' := by
  refine Ret.of_W Tryz.func5 rfl Tryz.ntmps5 Tryz.results5 (by simp) ?_
  refine W_seq <| W_region (by rfl) ?_
  refine x r_assign <| xe ?_
  refine W_seq <| W_region (by rfl) ?_
  refine xl rfl <| xf <| (example_ok true w).mono ?_
  rintro r1 w1 ⟨hs1, v1, v2, rfl, hF1, hF2⟩
  obtain ⟨pva, pvm, pve, rfl, hP⟩ : AutF w.heap.size w1.heap v1 exP := hF1
  obtain ⟨sa, sm, se, rfl, hS⟩ := hF2
  have hP1 := hP [] (by simp)
  have hS1 := hS [] (by simp)
  refine x r_move <| x (r_extract rfl rfl) <| x (r_extract rfl rfl) <| xl rfl <| o_alloc (us := [.slice none 0 0, .int .i64 0, .slice none 0 0, .slice none 0 0]) rfl fun b1 w2 hs2 hb1 hB1 =>
    xl rfl <| o_alloc (us := [.slice none 0 0, .int .i64 0, .slice none 0 0, .slice none 0 0]) rfl fun b2 w3 hs3 hb2 hB2 => xl rfl <| o_stores (us := [pva, .int .i64 exP.st, pvm, pve]) (hB1.ext hs3) rfl rfl rfl rfl ⟨hP1.al.one, rfl, hP1.mr.one, hP1.ed.one, trivial⟩ fun w4 hs4 hB1' => ?_
  have hl1 := hB1.lt
  have hB24 := hB2.step hs4 (by simp; omega)
  refine xl rfl <| o_stores (us := [sa, .int .i64 exS.st, sm, se]) hB24 rfl rfl rfl rfl ⟨hS1.al.one, rfl, hS1.mr.one, hS1.ed.one, trivial⟩ fun w5 hs5 hB25 =>
    xe ?_
  have hz1 := hs1.size
  have hz2 := hs2.size
  have hB15 := hB1'.step hs5 (by simp; omega)
  have hs15 : Step [] w1 w5 := ((hs2.trans hs3).then1 hs4 hb1).then1 hs5 (by omega)
  have hW5 := hs1.trans hs15
  have hP5 := hP1.ext hs15
  have hS5 := hS1.ext hs15
  refine W_seq <| W_region (by rfl) ?_
  refine x (r_loadsB hB15 rfl rfl) <| x (r_loadsB hB25 rfl rfl) <| xl rfl <| xf <| (Map_ok hP5 hS5 (fun _ _ => ⟨by decide, by decide⟩)).mono ?_
  rintro r6 w6 ⟨hs6, vl, hr6, _, hg6⟩
  rw [exPS_E] at hr6
  subst hr6
  have hg6' := (hg6 exPS_E).1
  rw [exPS_C] at hg6'
  obtain ⟨d0, d1, d2, hd0, hd1, hd2, hC6⟩ := CtlF.three hg6'
  refine x r_move <| x (r_extract rfl rfl) <|
    x (r_extract rfl rfl) <| x r_assign <| x r_assign <| xe ?_
  refine W_seq <| W_region (by rfl) ?_
  refine x (r_loadsB (hB15.ext hs6) rfl rfl) <| x (r_loadsB (hB25.ext hs6) rfl rfl) <| xl rfl <| xf <| (Classes_ok (hP5.ext hs6) (hS5.ext hs6) (fun _ _ => ⟨by decide, by decide⟩)).mono ?_
  rintro r7 w7 ⟨hs7, vk, hr7, _, hg7⟩
  rw [exPS_E] at hr7
  subst hr7
  have hk7 := hg7 exPS_E
  rw [exPS_K] at hk7
  refine x r_move <| x (r_extract rfl rfl) <|
    x (r_extract rfl rfl) <| x r_assign <| x r_assign <| xe ?_
  refine W_seq <| W_region (by rfl) ?_
  refine xl rfl <| xf <| (example_ok false w7).mono ?_
  rintro r8 w8 ⟨hs8, v3, v4, rfl, hF3, hF4⟩
  obtain ⟨lva, lvm, lve, rfl, hL⟩ : AutF w7.heap.size w8.heap v3 exL := hF3
  obtain ⟨ta, tm, te, rfl, hT⟩ := hF4
  have hL1 := hL [] (by simp)
  have hT1 := hT [] (by simp)
  refine x r_move <| x (r_extract rfl rfl) <| x (r_extract rfl rfl) <| xl rfl <| o_alloc (us := [.slice none 0 0, .int .i64 0, .slice none 0 0, .slice none 0 0]) rfl fun b7 w9 hs9 hb7 hB7 =>
    xl rfl <| o_alloc (us := [.slice none 0 0, .int .i64 0, .slice none 0 0, .slice none 0 0]) rfl fun b8 w10 hs10 hb8 hB8 => xl rfl <| o_stores (us := [lva, .int .i64 exL.st, lvm, lve]) (hB7.ext hs10) rfl rfl rfl rfl ⟨hL1.al.one, rfl, hL1.mr.one, hL1.ed.one, trivial⟩ fun w11 hs11 hB7' => ?_
  have hl7 := hB7.lt
  have hB811 := hB8.step hs11 (by simp; omega)
  refine xl rfl <| o_stores (us := [ta, .int .i64 exS.st, tm, te]) hB811 rfl rfl rfl rfl ⟨hT1.al.one, rfl, hT1.mr.one, hT1.ed.one, trivial⟩ fun w12 hs12 hB812 =>
    xe ?_
  have hz9 := hs9.size
  have hB712 := hB7'.step hs12 (by simp; omega)
  have hs812 : Step [] w8 w12 := ((hs9.trans hs10).then1 hs11 hb7).then1 hs12 (by omega)
  have hs512 : Step [] w5 w12 := ((hs6.trans hs7).trans hs8).trans hs812
  have hs712 : Step [] w7 w12 := hs8.trans hs812
  refine W_seq <| W_region (by rfl) ?_
  refine x (r_loadsB hB712 rfl rfl) <| x (r_loadsB (hB25.ext hs512) rfl rfl) <| xl rfl <| xf <| (Reduce_ok (hL1.ext hs812) (hS5.ext hs512) (fun _ _ => ⟨by decide, by decide⟩)).mono ?_
  rintro r13 w13 ⟨hs13, vr, hr13, _, hg13⟩
  rw [exLS_E] at hr13
  subst hr13
  have hR := hg13 exLS_E
  rw [exLS_A] at hR
  obtain ⟨ra, rm, re, rfl, hR'⟩ := hR
  have hR1 := hR' [] (by simp)
  refine x r_move <| x (r_extract rfl rfl) <|
    x (r_extract rfl rfl) <| xl rfl <| o_alloc (us := [.slice none 0 0, .int .i64 0, .slice none 0 0, .slice none 0 0]) rfl fun b9 w14 hs14 hb9 hB9 => xl rfl <| o_stores (us := [ra, .int .i64 1, rm, re]) hB9 rfl rfl rfl rfl ⟨hR1.al.one, rfl, hR1.mr.one, hR1.ed.one, trivial⟩ fun w15 hs15' hB9' => x r_assign <|
    xe ?_
  have hs1315 : Step [] w13 w15 := hs14.then1 hs15' hb9
  have hs715 := (hs712.trans hs13).trans hs1315
  have hs615 := hs7.trans hs715
  have hW15 := (hW5.trans hs6).trans hs615
  have hC15 := hC6.ext hs615
  have hk15 := IntsO.ints (L := []) (own_ext hk7 hs715) (by decide) (by simp)
  have e1 : ∀ {H : Array Obj}, Ctls [] H vl [d0, d1, d2] → Ints [] H d1.ve [0, 1] := fun h => by have := (h.each d1 (by simp)).en; rw [hd1] at this; exact this
  have e2 : ∀ {H : Array Obj}, Ctls [] H vl [d0, d1, d2] → Ints [] H d2.vd [0] := fun h => by have := (h.each d2 (by simp)).dis; rw [hd2] at this; exact this
  have hed := hR1.ed
  refine W_seq <| W_region (by rfl) ?_
  refine x r_move <| x (r_eql rfl rfl) <| x r_move <| x r_move <| x (r_lenA hC15.arr rfl) <| x (r_eql rfl rfl) <|
    x (r_pick rfl) <| x r_move <| x r_move <| xig (g := cvCells) (i := 1) cv_len hC15.arr rfl rfl (by simp) fun a46 h46 => x (r_field rfl) <| x (r_loadA (h46.fld 0 _ rfl) rfl) <|
    xl rfl <| o_lits (us := [[.int .i64 0], [.int .i64 1]]) rfl rfl (by decide) (by decide) ⟨rfl, rfl, rfl, rfl, trivial⟩ fun b49 w16 hs16 hb49 hB49 => ?_
  have hV49 : Ints [] w16.heap (.slice (some ⟨b49, 0, none⟩) 2 2) [0, 1] := hB49.arr (by simp) rfl (by simp) (by simp)
  refine xl rfl <| xf <| (wEqual_ok (e1 (hC15.ext hs16)) hV49).mono ?_
  rintro r17 w17 ⟨hr17, hs17⟩
  have hr17' : r17 = .bool true := hr17
  subst hr17'
  have hs1517 := hs16.trans hs17
  have hC17 := hC15.ext hs1517
  refine x (r_pick rfl) <|
    x r_move <| x r_move <| xig (g := cvCells) (i := 1) cv_len hC17.arr rfl rfl (by simp) fun a54 h54 => x (r_field rfl) <| x (r_loadA (h54.fld 0 _ rfl) rfl) <|
    x (r_lenA (e1 hC17) rfl) <| x (r_eql rfl rfl) <| x (r_pick rfl) <| x r_move <| x r_move <| xig (g := cvCells) (i := 2) cv_len hC17.arr rfl rfl (by simp) fun a62 h62 => x (r_field rfl) <|
    x (r_loadA (h62.fld 1 _ rfl) rfl) <| xl rfl <| o_lits (us := [[.int .i64 0]]) rfl rfl (by decide) (by decide) ⟨rfl, rfl, trivial⟩ fun b65 w18 hs18 hb65 hB65 => ?_
  have hV65 : Ints [] w18.heap (.slice (some ⟨b65, 0, none⟩) 1 1) [0] := hB65.arr (by simp) rfl (by simp) (by simp)
  refine xl rfl <| xf <| (wEqual_ok (e2 (hC17.ext hs18)) hV65).mono ?_
  rintro r19 w19 ⟨hr19, hs19⟩
  have hr19' : r19 = .bool true := hr19
  subst hr19'
  have hs1719 := hs18.trans hs19
  have hC19 := hC17.ext hs1719
  refine x (r_pick rfl) <| x r_move <| x r_move <| xig (g := cvCells) (i := 2) cv_len hC19.arr rfl rfl (by simp) fun a70 h70 =>
    x (r_field rfl) <| x (r_loadA (h70.fld 1 _ rfl) rfl) <| x (r_lenA (e2 hC19) rfl) <| x (r_eql rfl rfl) <| x (r_pick rfl) <| x r_move <| x r_move <| x (r_eql rfl rfl) <|
    x (r_pick rfl) <| x r_move <| x r_move <| xl rfl <| o_lits (us := [[.int .i64 0], [.int .i64 1], [.int .i64 2]]) rfl rfl (by decide) (by decide) ⟨rfl, rfl, rfl, rfl, rfl, rfl, trivial⟩ fun b82 w20 hs20 hb82 hB82 => ?_
  have hV82 : Ints [] w20.heap (.slice (some ⟨b82, 0, none⟩) 3 3) [0, 1, 2] := hB82.arr (by simp) rfl (by simp) (by simp)
  have hs1520 := (hs1517.trans hs1719).trans hs20
  refine xl rfl <| xf <| (wEqual_ok (hk15.ext hs1520) hV82).mono ?_
  rintro r21 w21 ⟨hr21, hs21⟩
  have hr21' : r21 = .bool true := hr21
  subst hr21'
  have hs1521 := hs1520.trans hs21
  have hB921 := hB9'.ext hs1521
  refine x (r_pick rfl) <| x r_move <| x r_move <| x (r_lenA hk15 rfl) <| x (r_eql rfl rfl) <| x (r_pick rfl) <| x r_move <| x r_move <| x (r_eql rfl rfl) <|
    x (r_pick rfl) <| x r_move <| x (r_fieldB rfl) <| x (r_loadB hB921 rfl rfl) <| x (r_eql rfl rfl) <| x (r_pick rfl) <| x r_move <| x (r_fieldB rfl) <| x (r_loadB hB921 rfl rfl) <| x (r_lenA hed rfl) <|
    x (r_eql rfl rfl) <| x (r_pick rfl) <| x r_assign <| xe ?_
  exact W_ret ⟨[.bool true], ⟨rfl, trivial⟩, rfl, hW15.trans hs1521⟩
end Go.Proofs.YtfhgnlkdcdlblaaGreatDoor
/- More rules: arrays, the bits of a number; a drawn region whose open orders are told by a tree. -/
namespace Go.Lg
section
variable {P : Program} {n : Nat} {f : Fr} {w : World} {d : Option Nat} {ty : Nat} {ps : String} {af : Array Edge} {gd : Option (Nat × Bool)}
/-- t is an array of m elements of type e, sz cells each. -/
class Ay (P : Program) (t : Nat) (m e sz : outParam Nat) : Prop where
  u : P.underlying t = some (.array m e)
  i : (P.info? e).map (·.size) = some sz
theorem r_indexR {x y : Operand} {t m e sz : Nat} [h : Ay P t m e sz] {b o : Nat} {k : IntKind} {i : Nat} (hx : ev f x = .pointer (some ⟨b, o, none⟩)) (hy : ev f y = .int k i) (h1 : i < m) :
    (execOp (ev f) ⟨d, .indexAddr t x y, ty, ps, af, gd⟩).run P w = .ok (.value (.pointer (some ⟨b, o + i * sz, none⟩))) w := by
  have hi := h.i
  cases hn : P.info? e with
  | none => simp [hn] at hi
  | some ii =>
    simp [hn] at hi
    simp [execOp, hx, hy, Instr.indexAt, asIntOf, run_underlying h.u, Instr.sureAddr, sizeOf, typeInfo, hn, hi, lit_add']
    intro h2; omega
theorem and_le8 {a b : Nat} (ha : a < 256) : inK .u8 ((a &&& b : Nat) : Int) := by
  have : a &&& b ≤ a := Nat.and_le_left
  exact ⟨by omega, by omega⟩
theorem r_and8 {t t' : Nat} {x y : Operand} {a b : Nat} (hx : ev f x = .int .u8 a) (hy : ev f y = .int .u8 b) (ha : a < 256) (hb : b < 256) :
    (execOp (ev f) ⟨d, .binOp .and t x y t', ty, ps, af, gd⟩).run P w = .ok (.value (.int .u8 ((a &&& b : Nat) : Int))) w := by
  refine r_bin hx hy ?_
  simp only [binOp, Op.intBits, BitVec.ofInt_natCast, ne_eq, not_true_eq_false, if_false, Sem.run_pure]
  rw [BitVec.toNat_and, BitVec.toNat_ofNat, BitVec.toNat_ofNat, Nat.mod_eq_of_lt (show a < 2 ^ IntKind.u8.bits from ha), Nat.mod_eq_of_lt (show b < 2 ^ IntKind.u8.bits from hb), wrap_in (and_le8 ha)]
theorem and_le32 {a b : Nat} (ha : a < 4294967296) : inK .u32 ((a &&& b : Nat) : Int) := by
  have : a &&& b ≤ a := Nat.and_le_left
  exact ⟨by omega, by omega⟩
theorem r_and32 {t t' : Nat} {x y : Operand} {a b : Nat} (hx : ev f x = .int .u32 a) (hy : ev f y = .int .u32 b) (ha : a < 4294967296) (hb : b < 4294967296) :
    (execOp (ev f) ⟨d, .binOp .and t x y t', ty, ps, af, gd⟩).run P w = .ok (.value (.int .u32 ((a &&& b : Nat) : Int))) w := by
  refine r_bin hx hy ?_
  simp only [binOp, Op.intBits, BitVec.ofInt_natCast, ne_eq, not_true_eq_false, if_false, Sem.run_pure]
  rw [BitVec.toNat_and, BitVec.toNat_ofNat, BitVec.toNat_ofNat, Nat.mod_eq_of_lt (show a < 2 ^ IntKind.u32.bits from ha), Nat.mod_eq_of_lt (show b < 2 ^ IntKind.u32.bits from hb), wrap_in (and_le32 ha)]
theorem shr_nat (m i : Nat) : ((m : Int) / 2 ^ i) = ((m / 2 ^ i : Nat) : Int) := by rw [Int.natCast_ediv, Int.natCast_pow]; rfl
end

/-! ### The tree of the open orders -/
inductive Pt where
  | pl (l : List (Nat × Bool))
  | fk (pre : List (Nat × Bool)) (i j : Nat) (t1 t2 : Pt)
def Pt.len : Pt → Nat
  | .pl l => l.length
  | .fk pre _ _ t1 _ => pre.length + (1 + t1.len)
def quietGo (all : Array Oper) : List (Nat × Bool) → Array Bool → Bool
  | [], _ => true
  | (k, q) :: pl, ls => q && (Region.ready .any all ls).contains k && Region.free .any all ls k && quietGo all pl (ls.setIfInBounds k true)
def quietLs : List (Nat × Bool) → Array Bool → Array Bool
  | [], ls => ls
  | (k, _) :: pl, ls => quietLs pl (ls.setIfInBounds k true)
def ptGo (all : Array Oper) : Pt → Array Bool → Bool
  | .pl l, ls => planGo all l ls
  | .fk pre i j t1 t2, ls => quietGo all pre ls && Region.ready .any all (quietLs pre ls) == [i, j] && t1.len == t2.len && ptGo all t1 ((quietLs pre ls).setIfInBounds i true) && ptGo all t2 ((quietLs pre ls).setIfInBounds j true)
def ptOk (all : List Oper) (t : Pt) : Bool := Region.noSelect all.toArray && t.len == all.length && ptGo all.toArray t (Array.replicate all.length false)
def XT (P : Program) (all : List Oper) (C : World → Prop) (K : Fr → World → Prop) : Pt → Fr → World → Prop
  | .pl l => XP P all C K l
  | .fk pre i j t1 t2 => XP P all C (fun f w => (gdF all f (opAt all i) = true ∧ XO P (opAt all i) f w fun f' w' => C w' ∧ XT P all C K t1 f' w') ∧
      (gdF all f (opAt all j) = true ∧ XO P (opAt all j) f w fun f' w' => C w' ∧ XT P all C K t2 f' w')) pre
section
variable {P : Program} {n : Nat} {f : Fr} {w : World} {all : List Oper} {C : World → Prop} {K B : Fr → World → Prop}
theorem quietLs_size : ∀ (pl : List (Nat × Bool)) (ls : Array Bool), (quietLs pl ls).size = ls.size
  | [], _ => rfl
  | (k, q) :: pl, ls => by rw [quietLs, quietLs_size]; simp
theorem XA_of_quiet {m : Nat} (hs : Region.noSelect all.toArray = true) : ∀ (pl : List (Nat × Bool)) (ls : Array Bool) (f : Fr) (w : World), C w → quietGo all.toArray pl ls = true →
    (∀ f, B f w → XA P all C K m (quietLs pl ls) f w) → XP P all C B pl f w → XA P all C K (pl.length + m) ls f w
  | [], ls, f, w, hC, hp, hB, h => by
    simp only [XP] at h
    rw [List.length_nil, Nat.zero_add]
    exact hB f h
  | (i0, q) :: pl, ls, f, w, hC, hp, hB, h => by
    simp only [quietGo, Bool.and_eq_true] at hp
    obtain ⟨⟨⟨rfl, hr⟩, hf⟩, hp'⟩ := hp
    simp only [XP] at h
    have hri : i0 ∈ Region.ready .any all.toArray ls := by simpa using hr
    have e : (List.length ((i0, true) :: pl)) + m = (pl.length + m) + 1 := by simp; omega
    rw [e]
    cases ho : all[i0]? with
    | none =>
      exfalso
      obtain ⟨_, o, hoo, _⟩ := mem_ready.1 hri
      simp [ho] at hoo
    | some o =>
      rw [opAt_some ho] at h
      have hsel : ∀ (j : Nat) (o : Oper) cs b, all[j]? = some o → o.op ≠ .select cs b := fun j o cs b hj => Region.noSelect_spec hs j o cs b (by simpa using hj)
      have hfree := fun j oj hj => Region.free_spec (ops := all.toArray) (md := .any) (i := i0) (oi := o) (listed := ls) (by simpa using ho) hf j oj (by simpa using hj)
      cases hg : gdF all f o with
      | false =>
        rw [hg] at h
        exact XA_first (v := undef) (D := fun w => rdB o = true → C w) ho (fun _ h => h) hsel _ ls f w (fun _ => hC) hfree hri (.inr ⟨hg, rfl⟩) (XA_of_quiet hs pl _ _ _ hC hp' hB h)
      | true =>
        rw [hg] at h
        simp only [cond_true] at h
        obtain ⟨v, hv, hx⟩ := h
        exact XA_first (v := v) (D := fun w => rdB o = true → C w) ho (fun _ h => h) hsel _ ls f w (fun _ => hC) hfree hri (.inl ⟨hg, hv⟩) (XA_of_quiet hs pl _ _ _ hC hp' hB hx)
theorem XA_of_tree (hs : Region.noSelect all.toArray = true) : ∀ (t : Pt) (ls : Array Bool) (f : Fr) (w : World), ls.size = all.length → C w → ptGo all.toArray t ls = true → XT P all C K t f w → XA P all C K t.len ls f w
  | .pl l, ls, f, w, hsz, hC, hp, h => XA_of_plan hs l ls f w hsz (.inl hC) hp h
  | .fk pre i j t1 t2, ls, f, w, hsz, hC, hp, h => by
    simp only [ptGo, Bool.and_eq_true, beq_iff_eq] at hp
    obtain ⟨⟨⟨⟨hq, hr⟩, hl⟩, h1⟩, h2⟩ := hp
    rw [Pt.len]
    refine XA_of_quiet (B := fun f w => (gdF all f (opAt all i) = true ∧ XO P (opAt all i) f w fun f' w' => C w' ∧ XT P all C K t1 f' w') ∧
      (gdF all f (opAt all j) = true ∧ XO P (opAt all j) f w fun f' w' => C w' ∧ XT P all C K t2 f' w')) hs pre ls f w hC hq (fun f hB => ?_) h
    have hsz' : ∀ k, ((quietLs pre ls).setIfInBounds k true).size = all.length := fun k => by simp [quietLs_size, hsz]
    rw [Nat.add_comm 1]
    refine XA_succ (fun h0 => (by rw [h0] at hr; cases hr)) ?_
    rw [hr]
    intro k hk o ho
    simp only [List.mem_cons, List.not_mem_nil, or_false] at hk
    rcases hk with rfl | rfl
    · have := hB.1
      rw [opAt_some ho] at this
      rw [this.1, cond_true]
      exact this.2.mono fun v w' hx => ⟨.inr (.inr hx.1), XA_of_tree hs t1 _ _ _ (hsz' _) hx.1 h1 hx.2⟩
    · have := hB.2
      rw [opAt_some ho] at this
      rw [this.1, cond_true, hl]
      exact this.2.mono fun v w' hx => ⟨.inr (.inr hx.1), XA_of_tree hs t2 _ _ _ (hsz' _) hx.1 h2 hx.2⟩
theorem W_drawT {Q : Exit → Fr → World → Prop} {id : Nat} (C : World → Prop) (t : Pt) (hm : P.follows .mixedOrders = true) (hn : dstOk n all = true) (hp : ptOk all t = true)
    (hC : C { w with drawn := w.drawn + 1 }) (h : XT P all C (fun f w => Q .normal f w) t f { w with drawn := w.drawn + 1 }) : W P n (.region id all.toArray true) Q f w := by
  simp only [ptOk, Bool.and_eq_true, beq_iff_eq] at hp
  obtain ⟨⟨hs, hl⟩, hp⟩ := hp
  refine W_draw_any C hm hn ?_
  have h1 := XA_of_tree hs t _ _ _ (by simp) hC hp h
  rw [hl] at h1
  exact h1
end
end Go.Lg
/- What is merged, by membership; when Controls are consistent. -/
namespace Go.Proofs.YtfhgnlkdcdlblaaGreatDoor
open Go.Lg

theorem Inc.lt_of {a : Int} {l : List Int} (h : Inc (a :: l)) {x : Int} (hx : x ∈ l) : a < x := (List.pairwise_cons.1 h).1 x hx
theorem Inc.tail {a : Int} {l : List Int} (h : Inc (a :: l)) : Inc l := (List.pairwise_cons.1 h).2
theorem mrg_mem (keep : Bool → Bool → Bool) : ∀ (n : Nat) (a b : List Int), a.length + b.length ≤ n → Inc a → Inc b → ∀ x, x ∈ mrg keep a b ↔ (x ∈ a ∨ x ∈ b) ∧ keep (decide (x ∈ a)) (decide (x ∈ b)) = true := by
  intro n
  induction n with
  | zero =>
    intro a b h _ _ x
    have ha : a = [] := List.eq_nil_of_length_eq_zero (by omega)
    have hb : b = [] := List.eq_nil_of_length_eq_zero (by omega)
    subst ha hb; simp [mrg_nil]
  | succ n ih =>
    intro a b hn ia ib x
    cases a with
    | nil =>
      cases b with
      | nil => simp [mrg_nil]
      | cons y b =>
        rw [mrg_step keep (by simp)]
        have := ih [] b (by simp at hn ⊢; omega) ia ib.tail x
        have hy : y ∉ b := fun h => by have := ib.lt_of h; omega
        simp only [inA, tl, hx, cond_true, cond_false, List.tail_cons, List.headD_cons, List.mem_append]
        rw [this]
        by_cases e : x = y
        · subst e
          cases hk : keep false true <;> simp [hk, hy]
        · cases keep false true <;> simp [e]
    | cons u a =>
      cases b with
      | nil =>
        rw [mrg_step keep (by simp)]
        have := ih a [] (by simp at hn ⊢; omega) ia.tail ib x
        have hy : u ∉ a := fun h => by have := ia.lt_of h; omega
        simp only [inA, tl, hx, cond_true, cond_false, List.tail_cons, List.headD_cons, List.mem_append]
        rw [this]
        by_cases e : x = u
        · subst e
          cases hk : keep true false <;> simp [hk, hy]
        · cases keep true false <;> simp [e]
      | cons y b =>
        rw [mrg_step keep (by simp)]
        have hu : u ∉ a := fun h => by have := ia.lt_of h; omega
        have hy : y ∉ b := fun h => by have := ib.lt_of h; omega
        rcases Int.lt_trichotomy u y with h1 | h1 | h1
        · have hub : u ∉ y :: b := fun h => by
            rcases List.mem_cons.1 h with h | h
            · omega
            · have := ib.lt_of h; omega
          have := ih a (y :: b) (by simp at hn ⊢; omega) ia.tail ib x
          have e1 : decide (u ≤ y) = true := decide_eq_true (by omega)
          have e2 : decide (y ≤ u) = false := decide_eq_false (by omega)
          simp only [inA, tl, hx, e1, e2, cond_true, cond_false, List.tail_cons, List.headD_cons, List.mem_append]
          rw [this]
          by_cases e : x = u
          · subst e
            cases hk : keep true false <;> simp [hk, hu, hub]
          · cases keep true false <;> simp [e]
        · subst h1
          have := ih a b (by simp at hn ⊢; omega) ia.tail ib.tail x
          have e1 : decide (u ≤ u) = true := decide_eq_true (by omega)
          simp only [inA, tl, hx, e1, cond_true, List.tail_cons, List.headD_cons, List.mem_append]
          rw [this]
          by_cases e : x = u
          · subst e
            cases hk : keep true true <;> simp [hk, hu, hy]
          · cases keep true true <;> simp [e]
        · have hub : y ∉ u :: a := fun h => by
            rcases List.mem_cons.1 h with h | h
            · omega
            · have := ia.lt_of h; omega
          have := ih (u :: a) b (by simp at hn ⊢; omega) ia ib.tail x
          have e1 : decide (u ≤ y) = false := decide_eq_false (by omega)
          have e2 : decide (y ≤ u) = true := decide_eq_true (by omega)
          simp only [inA, tl, hx, e1, e2, cond_true, cond_false, List.tail_cons, List.headD_cons, List.mem_append]
          rw [this]
          by_cases e : x = y
          · subst e
            cases hk : keep false true <;> simp [hk, hy, hub]
          · cases keep false true <;> simp [e]
theorem mem_mrg {keep : Bool → Bool → Bool} {a b : List Int} (ia : Inc a) (ib : Inc b) (x : Int) : x ∈ mrg keep a b ↔ (x ∈ a ∨ x ∈ b) ∧ keep (decide (x ∈ a)) (decide (x ∈ b)) = true :=
  mrg_mem keep _ a b (Nat.le_refl _) ia ib x
theorem mem_meets {a b : List Int} (ia : Inc a) (ib : Inc b) (x : Int) : x ∈ meets a b ↔ x ∈ a ∧ x ∈ b := by
  unfold meets; rw [mem_mrg ia ib]; simp; intro h _; exact .inl h
theorem meets_nil {a b : List Int} (ia : Inc a) (ib : Inc b) : (meets a b).length = 0 ↔ ∀ x ∈ a, x ∉ b := by
  rw [List.length_eq_zero_iff]
  constructor
  · intro h x hx hb
    have := (mem_meets ia ib x).2 ⟨hx, hb⟩
    rw [h] at this; cases this
  · intro h
    refine List.eq_nil_iff_forall_not_mem.2 fun x hx => ?_
    have := (mem_meets ia ib x).1 hx
    exact h x this.1 this.2
/-- The definition. -/
def lawC (a b : Ctl) : Bool := (a.en.all fun x => !decide (x ∈ b.dis)) && (b.en.all fun x => !decide (x ∈ a.dis)) && (!a.ps || !b.ps || a.mk' == b.mk')
theorem consC_law {a b : Ctl} (h1 : Inc a.en) (h2 : Inc a.dis) (h3 : Inc b.en) (h4 : Inc b.dis) : consC a b = lawC a b := by
  unfold consC lawC
  congr 1
  rw [Bool.eq_iff_iff]
  simp only [decide_eq_true_eq, Nat.add_eq_zero_iff, Bool.and_eq_true, List.all_eq_true, Bool.not_eq_true', decide_eq_false_iff_not]
  rw [meets_nil h1 h4, meets_nil h3 h2]
theorem lawC_symm (a b : Ctl) : lawC b a = lawC a b := by
  unfold lawC
  rw [Bool.and_comm (b.en.all _), Bool.or_comm (!b.ps)]
  congr 2
  cases a.mk' <;> cases b.mk' <;> rfl
/-- The set of a mask's bits. -/
def setK (m k : Nat) : List Int := ((List.range' 0 k).filter fun i => decide (((m / 2 ^ i) &&& 1) = 1)).map fun i : Nat => (i : Int)
theorem setK_succ (m k : Nat) : setK m (k + 1) = if (m / 2 ^ k) &&& 1 = 1 then setK m k ++ [(k : Int)] else setK m k := by
  unfold setK
  rw [List.range'_1_concat, List.filter_append, List.map_append, Nat.zero_add]
  by_cases h : (m / 2 ^ k) &&& 1 = 1
  · rw [if_pos h, List.filter_cons, if_pos (decide_eq_true h)]; rfl
  · rw [if_neg h, List.filter_cons, if_neg (by rw [decide_eq_false h]; simp), List.filter_nil, List.map_nil, List.append_nil]
theorem setK_len (m : Nat) : ∀ k, (setK m k).length ≤ k
  | 0 => by simp [setK]
  | k + 1 => by
    have := setK_len m k
    rw [setK_succ]
    split
    · simp; omega
    · omega
theorem setK_inc (m k : Nat) : Inc (setK m k) := by
  unfold setK Inc
  rw [List.pairwise_map]
  refine List.Pairwise.sublist List.filter_sublist ?_
  exact (List.pairwise_lt_range' (s := 0) (n := k)).imp (fun h => by omega)
end Go.Proofs.YtfhgnlkdcdlblaaGreatDoor
/- Contracts: alphabet.Set; overseerlaw30.consistent. -/
namespace Go.Proofs.YtfhgnlkdcdlblaaGreatDoor
open Go.Lg
end Go.Proofs.YtfhgnlkdcdlblaaGreatDoor
/- append of a slice that may be nil. -/
namespace Go.Lg
section
variable {P : Program} {f : Fr} {w : World} {K : Fr → World → Prop} {d : Option Nat} {ty : Nat} {ps : String} {af : Array Edge} {gd : Option (Nat × Bool)}
theorem run_append_none {t ty e sz bys : Nat} {z : Value} [h : Sl P t e sz bys z] {base : Nat} {v : Value} {n : Nat} {cs : List Value} (hown : w.ownsRow base e sz v n cs) :
    (Builtin.append_ #[t, t] ty #[v, .slice none 0 0]).run P w = .ok v w := by
  obtain ⟨i, hi, _, hsz, _⟩ := Sl.info h
  rcases hown.2 with ⟨rfl, rfl⟩ | ⟨g, cap, cur, rfl, hbg, hgg, hnc, hcm, hcs, htake⟩
  · simp [Builtin.append_, run_underlying h.u, sizeOf, typeInfo, hi, Builtin.lenOf, Builtin.firstCells]
  · simp [Builtin.append_, run_underlying h.u, sizeOf, typeInfo, hi, Builtin.lenOf, Builtin.firstCells, hnc, storeCells]
theorem o_appV {t e sz bys : Nat} {z : Value} [h : Sl P t e sz bys z] {s y : Operand} {base : Nat} {v : Value} {n : Nat} {cs : List Value} (hown : w.ownsRow base e sz v n cs) (hs : ev f s = v)
    {v2 : Value} {m : Nat} {news : List Value} {L : List Nat} (hA : Arr L w.heap v2 m sz news) (hy : ev f y = v2) (h1 : ∀ u ∈ news, u.oneCell' = true)
    (hb : n + m ≤ 1099511627776) (hbase : base ≤ w.heap.size)
    (hK : ∀ v' w', w'.ownsRow base e sz v' (n + m) (cs ++ news) → Step (ob v) w w' → (∀ b ∈ ob v', b ∈ ob v ∨ w.heap.size ≤ b) → K (putF f d v') w') (hby : bys ≤ 128 := by decide) :
    XO P ⟨d, .call ⟨.builtin .append, #[s, y], #[t, t]⟩, ty, ps, af, gd⟩ f w K := by
  rcases hA.2.2 with ⟨e1, e2⟩ | ⟨a, c, e1, _, e3⟩
  · subst e2
    have hn : news = [] := List.eq_nil_of_length_eq_zero (by have := hA.1; simpa using this)
    subst hn
    have hr' : (execOp (ev f) ⟨d, .call ⟨.builtin .append, #[s, y], #[t, t]⟩, ty, ps, af, gd⟩).run P w = .ok (.value v) w := by
      simp [execOp, resolve, invoke, builtin, hs, hy, e1, run_append_none (ty := ty) hown]
    exact xv hr' (hK v w (by simpa using hown) (Step.refl _ _) (fun b hb => .inl hb))
  · exact o_app hown hs (hy.trans e1) hA.1 e3 h1 hb hbase hK hby
end
end Go.Lg
/- Merged out of the texts Da Sz Db Dc Dd De Df. -/
/- Contracts: overseerref03's has, Step, index, Empty. -/
namespace Go.Proofs.YtfhgnlkdcdlblaaGreatDoor
open Go.Lg

/-- has (ref 3) -/
theorem hasR_ok {L : List Nat} {w : World} {v : Value} {l : List Int} (h : Ints L w.heap v l) (x : Int) :
    Ret Tryz.prog 82 [v, .int .i64 x] w fun r w' => r = .bool (decide (x ∈ l)) ∧ w' = w := by
  have hle := h.le
  refine Ret.of_W Tryz.func82 rfl Tryz.ntmps82 Tryz.results82 (by simp) ?_
  refine W_seq <| W_region (by rfl) ?_
  refine Lg.x r_assign <| xe ?_
  refine W_seq <| W_seq <| W_region (by rfl) ?_
  refine Lg.x r_assign <| xe ?_
  refine W_block <| W_loop (α := Nat) [(4, 17)] (fun k => [(5, .int .i64 k)]) (fun k w' => w' = w ∧ k ≤ l.length ∧ (x ∈ l ↔ x ∈ l.drop k)) (fun k => l.length - k) (by rfl) 0 ⟨rfl, trivial⟩ ⟨rfl, Nat.zero_le _, by simp⟩ ?_
  rintro k g w' ⟨rfl, hk, hm⟩
  refine W_seq <| W_seq <| W_region (by rfl) ?_
  refine Lg.x r_move <| Lg.x r_move <| Lg.x (r_lenA h rfl) <| Lg.x (r_lss rfl rfl) <| xe ?_
  refine W_ifn rfl (fun h9 => ?_) (fun h9 => ?_)
  · refine W_exit ?_
    refine W_seq <| W_region (by rfl) ?_
    refine Lg.x r_assign <| xe ?_
    refine W_ret ⟨[.bool false], ⟨rfl, trivial⟩, ?_, rfl⟩
    rw [List.drop_of_length_le (by omega)] at hm
    simp [tup, hm]
  have hlt : k < l.length := by omega
  have hd := drop_cons hlt
  refine W_skip ?_
  refine W_seq <| W_block <| W_seq <| W_region (by rfl) ?_
  refine Lg.x r_move <| Lg.x r_move <| xii h rfl rfl hlt fun a14 h14 => Lg.x (r_loadA h14 rfl) <| Lg.x r_move <| Lg.x (r_eql rfl rfl) <| xe ?_
  refine W_if rfl (fun h17 => ?_) (fun h17 => ?_)
  · refine W_seq <| W_region (by rfl) ?_
    refine Lg.x r_assign <| xe ?_
    refine W_ret ⟨[.bool true], ⟨rfl, trivial⟩, ?_, rfl⟩
    have : x ∈ l := by rw [hm, hd, h17]; exact List.mem_cons_self
    simp [tup, this]
  refine W_skip ?_
  refine W_region (by rfl) ?_
  refine Lg.x r_move <| Lg.x (r_add rfl rfl ⟨by omega, by omega⟩) <| Lg.x r_assign <| xe ?_
  refine ⟨k + 1, by omega, ⟨rfl, trivial⟩, rfl, by omega, ?_⟩
  rw [hm, hd, List.mem_cons]
  exact ⟨fun h => h.resolve_left (fun e => h17 e.symm), .inr⟩

theorem stepR_ok {L : List Nat} {w : World} {va vm ve : Value} {a : Aut} (h : Eds L w.heap ve a.ed) (s e : Int) (st : Int) :
    Ret Tryz.prog 83 [.agg #[va, .int .i64 st, vm, ve], .int .i64 s, .int .i64 e] w fun r w' => r = .int .i64 (nxt a.ed s e) ∧ Step [] w w' := by
  have hle := h.le
  refine Ret.of_W Tryz.func83 rfl Tryz.ntmps83 Tryz.results83 (by simp) ?_
  refine W_seq <| W_region (by rfl) ?_
  refine xl rfl <| o_box (us := [va, .int .i64 st, vm, ve]) rfl fun b3 w1 hs1 hb3 hB3 => Lg.x r_assign <| xe ?_
  replace h := h.ext hs1
  refine W_seq <| W_seq <| W_region (by rfl) ?_
  refine Lg.x r_assign <| xe ?_
  refine W_block <| W_loop (α := Nat) [(6, 38)] (fun k => [(7, .int .i64 k)]) (fun k w' => w' = w1 ∧ k ≤ a.ed.length ∧ nxt (a.ed.drop k) s e = nxt a.ed s e) (fun k => a.ed.length - k) (by rfl) 0 ⟨rfl, trivial⟩ ⟨rfl, Nat.zero_le _, rfl⟩ ?_
  rintro k g w2 ⟨rfl, hk, hn⟩
  refine W_seq <| W_seq <| W_region (by rfl) ?_
  refine Lg.x r_move <| Lg.x (r_fieldB rfl) <| Lg.x (r_loadB hB3 rfl rfl) <| Lg.x (r_lenA h rfl) <| Lg.x (r_lss rfl rfl) <| xe ?_
  refine W_ifn rfl (fun h12 => ?_) (fun h12 => ?_)
  · refine W_exit ?_
    refine W_seq <| W_region (by rfl) ?_
    refine Lg.x r_assign <| xe ?_
    refine W_ret ⟨[.int .i64 (-1)], ⟨rfl, trivial⟩, ?_, hs1⟩
    rw [List.drop_of_length_le (by omega)] at hn
    rw [← hn]; rfl
  have hlt : k < a.ed.length := by omega
  have hd := drop_cons hlt
  refine W_skip ?_
  refine W_seq <| W_block <| W_cut (α := Bool) [(15, 32)] (fun z => [(32, .bool z)]) (fun z w' => w' = w2 ∧ z = decide (a.ed[k].1 = s ∧ a.ed[k].2.1 = e)) (by rfl) ?_ ?_
  · refine W_region (by rfl) ?_
    refine Lg.x (r_fieldB rfl) <| Lg.x (r_loadB hB3 rfl rfl) <| Lg.x r_move <| xie h rfl rfl hlt fun a18 h18 => Lg.x (r_field rfl) <| Lg.x (r_loadA (h18.fld 0 _ rfl) rfl) <|
      Lg.x r_move <| xb (r_eql rfl rfl) (fun h22 => ?_) (fun h22 => ?_)
    · refine Lg.x r_move <| Lg.x (r_fieldB rfl) <| Lg.x (r_loadB hB3 rfl rfl) <| Lg.x r_move <| xie h rfl rfl hlt fun a27 h27 => Lg.x (r_field rfl) <| Lg.x (r_loadA (h27.fld 1 _ rfl) rfl) <|
        Lg.x r_move <| Lg.x (r_eql rfl rfl) <| Lg.x (r_pick rfl) <| xe ?_
      exact ⟨_, ⟨rfl, trivial⟩, rfl, by simp [h22]⟩
    refine Lg.x r_move <| xs rfl <| xs rfl <| xs rfl <| xs rfl <| xs rfl <| xs rfl <| xs rfl <| xs rfl <| Lg.x (r_pick rfl) <| xe ?_
    exact ⟨_, ⟨rfl, trivial⟩, rfl, by simp [h22]⟩
  rintro z g w3 ⟨rfl, rfl⟩
  refine W_if rfl (fun h32 => ?_) (fun h32 => ?_)
  · refine W_seq <| W_region (by rfl) ?_
    refine Lg.x (r_fieldB rfl) <| Lg.x (r_loadB hB3 rfl rfl) <| Lg.x r_move <| xie h rfl rfl hlt fun a36 h36 => Lg.x (r_field rfl) <| Lg.x (r_loadA (h36.fld 2 _ rfl) rfl) <|
      Lg.x r_assign <| xe ?_
    refine W_ret ⟨[.int .i64 a.ed[k].2.2], ⟨rfl, trivial⟩, ?_, hs1⟩
    rw [← hn, hd, nxt, if_pos h32]; rfl
  refine W_skip ?_
  refine W_region (by rfl) ?_
  refine Lg.x r_move <| Lg.x (r_add rfl rfl ⟨by omega, by omega⟩) <| Lg.x r_assign <| xe ?_
  refine ⟨k + 1, by omega, ⟨rfl, trivial⟩, rfl, by omega, ?_⟩
  rw [← hn, hd, nxt, if_neg h32]

/-- index (ref 3): -1 if it is not there -/
def ixR (l : List Int) (n : Int) : Int := if n ∈ l then (l.idxOf n : Int) else -1
theorem ixR_drop {l : List Int} {n : Int} {k : Nat} (h : n ∉ l.take k) (hk : k < l.length) (he : cget l k = n) : ixR l n = k := by
  have hm : n ∈ l := by rw [← he, ← cget_eq hk]; exact List.getElem_mem hk
  unfold ixR
  rw [if_pos hm]
  have hs : l = l.take k ++ l.drop k := (List.take_append_drop k l).symm
  have : l.idxOf n = k := by
    rw [hs, List.idxOf_append, if_neg h, List.drop_eq_getElem_cons hk, List.idxOf_cons, show l[k] = n by rw [cget_eq hk]; exact he]
    simp; omega
  rw [this]
theorem indexR_ok {L : List Nat} {w : World} {v : Value} {l : List Int} (h : Ints L w.heap v l) (n : Int) :
    Ret Tryz.prog 84 [v, .int .i64 n] w fun r w' => r = .int .i64 (ixR l n) ∧ w' = w := by
  have hle := h.le
  refine Ret.of_W Tryz.func84 rfl Tryz.ntmps84 Tryz.results84 (by simp) ?_
  refine W_seq <| W_region (by rfl) ?_
  refine x r_assign <| xe ?_
  refine W_seq <| W_seq <| W_region (by rfl) ?_
  refine x r_assign <| xe ?_
  refine W_block <| W_loop (α := Nat) [(4, 18)] (fun z => [(5, .int .i64 z)]) (fun z w' => w' = w ∧ z ≤ l.length ∧ n ∉ l.take z) (fun z => l.length - z) (by rfl) 0 ⟨rfl, trivial⟩ ⟨rfl, Nat.zero_le _, by simp⟩ ?_
  rintro k g w1 ⟨rfl, hk, hm⟩
  refine W_seq <| W_seq <| W_region (by rfl) ?_
  refine x r_move <| x r_move <| x (r_lenA h rfl) <| x (r_lss rfl rfl) <| xe ?_
  refine W_ifn rfl (fun h9 => ?_) (fun h9 => ?_)
  · refine W_exit ?_
    refine W_seq <| W_region (by rfl) ?_
    refine x r_assign <| xe ?_
    rw [List.take_of_length_le (by omega)] at hm
    exact W_ret ⟨[.int .i64 (-1)], ⟨rfl, trivial⟩, by unfold ixR; rw [if_neg hm]; rfl, rfl⟩
  have hlt : k < l.length := by omega
  refine W_skip ?_
  refine W_seq <| W_block <| W_seq <| W_region (by rfl) ?_
  refine x r_move <| x r_move <| xic (i := k) h rfl rfl hlt fun a14 h14 => x (r_loadA h14 rfl) <| x r_move <| x (r_eql rfl rfl) <| xe ?_
  refine W_if rfl (fun h17 => ?_) (fun h17 => ?_)
  · refine W_seq <| W_region (by rfl) ?_
    refine x r_move <| x r_assign <| xe ?_
    exact W_ret ⟨[.int .i64 k], ⟨rfl, trivial⟩, by rw [ixR_drop hm hlt h17]; rfl, rfl⟩
  refine W_skip ?_
  refine W_region (by rfl) ?_
  refine x r_move <| x (r_add rfl rfl ⟨by omega, by omega⟩) <| x r_assign <| xe ?_
  refine ⟨k + 1, by omega, ⟨rfl, trivial⟩, rfl, hlt, ?_⟩
  rw [List.take_succ_eq_append_getElem hlt, cget_eq hlt]
  simp only [List.mem_append, List.mem_singleton, not_or]
  exact ⟨hm, fun e => h17 e.symm⟩

theorem emptyR_ok {L : List Nat} {w : World} {v : Value} {l : List Int} (h : Ints L w.heap v l) (hl : l.length ≤ 1000000) :
    Ret Tryz.prog 59 [v] w fun r w' => Step [] w w' ∧ ∃ va, r = .agg #[va, .int .i64 0, .slice none 0 0, .slice none 0 0] ∧ IntsO 3 w.heap.size w' va l := by
  refine Ret.of_W Tryz.func59 rfl Tryz.ntmps59 Tryz.results59 (by simp) ?_
  refine W_seq <| W_region (by rfl) ?_
  refine xl rfl <| o_alloc (us := [.slice none 0 0, .int .i64 0, .slice none 0 0, .slice none 0 0]) rfl fun b2 w1 hs1 hb2 hB2 => xe ?_
  have hz1 := hs1.size
  have hl2 := hB2.lt
  refine W_seq <| W_region (by rfl) ?_
  refine xl rfl <| o_lit0 fun b3 w2 hs2 hb3 hB3 => x r_move <| ?_
  have hs12 := hs1.trans hs2
  have hz2 := hs2.size
  have ho2 : w2.ownsRow w1.heap.size 3 1 (.slice (some ⟨b3, 0, none⟩) 0 0) 0 [] := hB3.own (n := 0) (sz := 1) rfl (by omega) hb3
  refine xl rfl <| o_appV ho2 rfl (h.ext hs12) rfl (one_ints l) (by omega) (by omega) fun va w3 ho3 hs3 hn3 => ?_
  have ho3' : IntsO 3 w1.heap.size w3 va l := by
    have : w3.ownsRow w1.heap.size 3 1 va (0 + l.length) ([] ++ l.map (.int .i64)) := ho3
    rw [Nat.zero_add, List.nil_append] at this; exact this
  have hA := IntsO.ints (L := []) ho3' (by omega) (by simp)
  have hB23 := (hB2.ext hs2).step hs3 (own_notin ho2 hl2)
  have hW3 : Step [] w w3 := hs12.then hs3 (fun b hb => .inr (by have := (own_ge ho2 b hb).1; omega))
  refine x (r_build ⟨hA.cells, trivial⟩) <| xl rfl <| o_stores (us := [va, .int .i64 0, .slice none 0 0, .slice none 0 0]) hB23 rfl rfl rfl rfl ⟨hA.one, rfl, rfl, rfl, trivial⟩ fun w4 hs4 hB4 => xe ?_
  have ho4 := own_step ho3' hs4 (fun b hb => by have := (own_ge ho3' b hb).1; simp; omega)
  exact W_ret ⟨[.agg #[va, .int .i64 0, .slice none 0 0, .slice none 0 0]], ⟨⟨_, rfl, run_loadVar_ag rfl (hB4.at (L := []) (by simp)).cells⟩, trivial⟩, hW3.then1 hs4 hb2, va, rfl, own_base ho4 hz1⟩
end Go.Proofs.YtfhgnlkdcdlblaaGreatDoor

/- What overseerref03's Found and Canonical compute, as plain functions. -/
namespace Go.Proofs.YtfhgnlkdcdlblaaGreatDoor
open Go.Lg

theorem pig : ∀ (n : Nat) (l : List Int), l.Nodup → (∀ x ∈ l, 0 ≤ x ∧ x < n) → l.length ≤ n
  | 0, l, _, h => by
    cases l with
    | nil => simp
    | cons a l => have := h a List.mem_cons_self; omega
  | n + 1, l, hd, h => by
    by_cases hm : (n : Int) ∈ l
    · have h1 := pig n (l.erase (n : Int)) (hd.erase _) (fun x hx => by
        have h2 := (List.Nodup.mem_erase_iff hd).1 hx
        have h3 := h x h2.2
        have h4 : x ≠ (n : Int) := h2.1
        omega)
      rw [List.length_erase_of_mem hm] at h1
      omega
    · have := pig n l hd (fun x hx => by
        have h3 := h x hx
        have h4 : x ≠ (n : Int) := fun e => hm (by rw [← e]; exact hx)
        omega)
      omega
def fdE (a : Aut) (s : Int) (out : List Int) (v : Int) : List Int := if 0 ≤ nxt a.ed s v ∧ nxt a.ed s v ∉ out then out ++ [nxt a.ed s v] else out
def fdR (a : Aut) (out : List Int) (s : Int) : List Int := a.al.foldl (fdE a s) out
def fdL (a : Aut) : Nat → Nat → List Int → List Int
  | 0, _, out => out
  | f + 1, i, out => if i < out.length then fdL a f (i + 1) (fdR a out (cget out i)) else out
def fd0 (a : Aut) : List Int := if 0 < a.st then [0] else []
def found (a : Aut) : List Int := fdL a a.st.toNat 0 (fd0 a)
/-- What holds of the states found. -/
structure FdOk (a : Aut) (out : List Int) : Prop where
  b : ∀ x ∈ out, 0 ≤ x ∧ x < a.st
  d : out.Nodup
theorem FdOk.len {a : Aut} {out : List Int} (h : FdOk a out) (h0 : 0 ≤ a.st) : out.length ≤ a.st.toNat := pig _ _ h.d (fun x hx => by have := h.b x hx; omega)
theorem nxt_mem {es : List Ed} {s v : Int} (h : 0 ≤ nxt es s v) : (s, v, nxt es s v) ∈ es := by
  induction es with
  | nil => simp [nxt] at h
  | cons e es ih =>
    rw [nxt] at h ⊢
    split at h
    · rename_i he
      rw [if_pos he]
      obtain ⟨p, q, r⟩ := e
      obtain ⟨h1, h2⟩ := he
      simp only [] at h1 h2
      subst h1 h2
      exact List.mem_cons_self
    · rename_i he
      rw [if_neg he]
      exact List.mem_cons_of_mem _ (ih h)
theorem fdE_ok {a : Aut} (ho : Okay a) {out : List Int} (h : FdOk a out) (s v : Int) : FdOk a (fdE a s out v) := by
  unfold fdE
  split
  · rename_i hc
    have hm := ho.ed _ (nxt_mem hc.1)
    refine ⟨fun x hx => ?_, ?_⟩
    · rcases List.mem_append.1 hx with hx | hx
      · exact h.b x hx
      · simp only [List.mem_singleton] at hx; subst hx; exact ⟨hc.1, hm.2.2.2.2⟩
    · rw [List.nodup_append]
      refine ⟨h.d, by simp, fun x hx y hy => ?_⟩
      simp only [List.mem_singleton] at hy
      subst hy
      exact fun e => hc.2 (by rw [← e]; exact hx)
  · exact h
theorem fdE_sub {a : Aut} {out : List Int} {s v : Int} : ∀ x ∈ out, x ∈ fdE a s out v := fun x hx => by unfold fdE; split; exact List.mem_append_left _ hx; exact hx
theorem fdE_in {a : Aut} {out : List Int} {s v : Int} (h : 0 ≤ nxt a.ed s v) : nxt a.ed s v ∈ fdE a s out v := by
  unfold fdE
  by_cases hm : nxt a.ed s v ∈ out
  · rw [if_neg (fun e => e.2 hm)]; exact hm
  · rw [if_pos ⟨h, hm⟩]; simp
theorem fdF_ok {a : Aut} (ho : Okay a) (s : Int) : ∀ (vs : List Int) (out : List Int), FdOk a out → FdOk a (vs.foldl (fdE a s) out)
  | [], _, h => h
  | v :: vs, _, h => fdF_ok ho s vs _ (fdE_ok ho h s v)
theorem fdF_sub {a : Aut} {s : Int} : ∀ (vs : List Int) (out : List Int), ∀ x ∈ out, x ∈ vs.foldl (fdE a s) out
  | [], _, _, hx => hx
  | _ :: vs, _, x, hx => fdF_sub vs _ x (fdE_sub x hx)
theorem fdF_in {a : Aut} {s : Int} : ∀ (vs : List Int) (out : List Int), ∀ v ∈ vs, 0 ≤ nxt a.ed s v → nxt a.ed s v ∈ vs.foldl (fdE a s) out
  | v :: vs, out, u, hu, h => by
    rcases List.mem_cons.1 hu with rfl | hu
    · exact fdF_sub vs _ _ (fdE_in h)
    · exact fdF_in vs _ u hu h
theorem fdF_pre {a : Aut} {s : Int} : ∀ (vs : List Int) (out : List Int), ∃ r, vs.foldl (fdE a s) out = out ++ r
  | [], out => ⟨[], by simp⟩
  | v :: vs, out => by
    obtain ⟨r, hr⟩ := fdF_pre (a := a) (s := s) vs (fdE a s out v)
    rw [List.foldl_cons, hr]
    unfold fdE
    split
    · exact ⟨[nxt a.ed s v] ++ r, by simp⟩
    · exact ⟨r, rfl⟩
theorem cget_pre {l r : List Int} {i : Nat} (h : i < l.length) : cget (l ++ r) i = cget l i := by
  rw [← cget_eq h, ← cget_eq (by simp; omega), List.getElem_append_left h]
/-- The states up to i have their steps. -/
def Cl (a : Aut) (out : List Int) (i : Nat) : Prop := ∀ j, j < i → j < out.length → ∀ v ∈ a.al, 0 ≤ nxt a.ed (cget out j) v → nxt a.ed (cget out j) v ∈ out
theorem Cl.next {a : Aut} {out : List Int} {i : Nat} (h : Cl a out i) (hi : i < out.length) : Cl a (fdR a out (cget out i)) (i + 1) := by
  intro j hj hjl v hv hn
  obtain ⟨r, hr⟩ := fdF_pre (a := a) (s := cget out i) a.al out
  have hr' : fdR a out (cget out i) = out ++ r := hr
  have hjo : j < out.length := by omega
  rw [hr', cget_pre hjo] at hn ⊢
  by_cases e : j = i
  · subst e
    have := fdF_in a.al out v hv hn
    rw [← hr']; exact this
  · exact List.mem_append_left _ (h j (by omega) hjo v hv hn)
theorem fdL_ok {a : Aut} (ho : Okay a) : ∀ (f i : Nat) (out : List Int), FdOk a out → Cl a out i → i + f = a.st.toNat → FdOk a (fdL a f i out) ∧ Cl a (fdL a f i out) (fdL a f i out).length
  | 0, i, out, h, hc, hf => by
    have := h.len ho.st0
    exact ⟨h, fun j hj hjl => hc j (by rw [fdL] at hj; omega) hjl⟩
  | f + 1, i, out, h, hc, hf => by
    rw [fdL]
    split
    · rename_i hi
      exact fdL_ok ho f (i + 1) _ (fdF_ok ho _ _ _ h) (hc.next hi) (by omega)
    · rename_i hi
      exact ⟨h, fun j hj hjl => hc j (by omega) hjl⟩
theorem fd0_ok (a : Aut) : FdOk a (fd0 a) := by
  unfold fd0
  split
  · rename_i h
    exact ⟨fun x hx => by simp only [List.mem_singleton] at hx; subst hx; exact ⟨by omega, h⟩, by simp⟩
  · exact ⟨by simp, by simp⟩
theorem found_ok {a : Aut} (ho : Okay a) : FdOk a (found a) ∧ ∀ s ∈ found a, ∀ v ∈ a.al, 0 ≤ nxt a.ed s v → nxt a.ed s v ∈ found a := by
  obtain ⟨h1, h2⟩ := fdL_ok ho a.st.toNat 0 (fd0 a) (fd0_ok a) (fun j hj => by omega) (by omega)
  refine ⟨h1, fun s hs v hv hn => ?_⟩
  obtain ⟨j, hj, rfl⟩ := List.getElem_of_mem hs
  have := h2 j hj hj v hv
  unfold found at hj hn ⊢
  rw [cget_eq hj] at hn ⊢
  exact this hn
/-! ### The canonical form -/
def canF (a : Aut) (fd : List Int) (i : Nat) (v : Int) : Option Ed := if 0 ≤ nxt a.ed (cget fd i) v then some ((i : Int), v, ixR fd (nxt a.ed (cget fd i) v)) else none
def canM (a : Aut) (fd : List Int) (n : Nat) : List Int := ((List.range' 0 n).filter fun i => decide (cget fd i ∈ a.mr)).map fun i : Nat => (i : Int)
def canE (a : Aut) (fd : List Int) (n : Nat) : List Ed := (List.range' 0 n).flatMap fun i => a.al.filterMap (canF a fd i)
def canR (a : Aut) : Aut := ⟨a.al, (found a).length, canM a (found a) (found a).length, canE a (found a) (found a).length⟩
theorem pw_filterMap {β : Type} {r : Int → Int → Prop} {q : β → β → Prop} {g : Int → Option β} (hg : ∀ x y u v, r x y → g x = some u → g y = some v → q u v) : ∀ {l : List Int}, l.Pairwise r → (l.filterMap g).Pairwise q
  | [], _ => by simp
  | x :: l, h => by
    obtain ⟨h1, h2⟩ := List.pairwise_cons.1 h
    rw [List.filterMap_cons]
    split
    · exact pw_filterMap hg h2
    · rename_i u hu
      refine List.pairwise_cons.2 ⟨fun v hv => ?_, pw_filterMap hg h2⟩
      obtain ⟨y, hy, hyv⟩ := List.mem_filterMap.1 hv
      exact hg x y u v (h1 y hy) hu hyv
theorem canR_ok {a : Aut} (ho : Okay a) : Okay (canR a) ∧ (canR a).al = a.al ∧ (canR a).st ≤ a.st := by
  obtain ⟨h1, h2⟩ := found_ok ho
  have hl := h1.len ho.st0
  have h0 := ho.st0
  have h4 := ho.st1
  refine ⟨⟨ho.al, ho.ali, by simp [canR], by simp only [canR]; omega, fun s hs => ?_, ?_, fun e he => ?_, ?_⟩, rfl, by simp only [canR]; omega⟩
  · simp only [canR, canM, List.mem_map, List.mem_filter, List.mem_range'_1] at hs
    obtain ⟨i, ⟨hi, _⟩, rfl⟩ := hs
    simp only [canR]; omega
  · simp only [canR, canM]
    unfold Inc
    rw [List.pairwise_map]
    refine List.Pairwise.sublist List.filter_sublist ?_
    exact (List.pairwise_lt_range' (s := 0) (n := (found a).length)).imp (fun h => by omega)
  · simp only [canR, canE, List.mem_flatMap, List.mem_filterMap, List.mem_range'_1] at he
    obtain ⟨i, ⟨_, hi⟩, v, hv, hf⟩ := he
    unfold canF at hf
    split at hf
    · rename_i hn
      cases hf
      have hi' : i < (found a).length := by omega
      have hm := h2 (cget (found a) i) (by rw [← cget_eq hi']; exact List.getElem_mem hi') v hv hn
      have hx := List.idxOf_lt_length_of_mem hm
      simp only [canR]
      unfold ixR
      rw [if_pos hm]
      exact ⟨by omega, by omega, hv, by omega, by omega⟩
    · cases hf
  · simp only [canR, canE]
    have key : ∀ (is : List Nat), is.Pairwise (· < ·) → (is.flatMap fun i => a.al.filterMap (canF a (found a) i)).Pairwise fun x y : Ed => x.1 < y.1 ∨ (x.1 = y.1 ∧ x.2.1 < y.2.1) := by
      intro is
      induction is with
      | nil => intro _; simp
      | cons i is ih =>
        intro hp
        obtain ⟨p1, p2⟩ := List.pairwise_cons.1 hp
        rw [List.flatMap_cons, List.pairwise_append]
        have from_i : ∀ (i : Nat) (e : Ed), e ∈ a.al.filterMap (canF a (found a) i) → e.1 = i := by
          intro i e he
          obtain ⟨v, _, hf⟩ := List.mem_filterMap.1 he
          unfold canF at hf
          split at hf
          · cases hf; rfl
          · cases hf
        refine ⟨?_, ih p2, fun e he e' he' => ?_⟩
        · refine pw_filterMap (r := (· < ·)) (fun x y u v hxy hu hv => ?_) ho.ali
          unfold canF at hu hv
          split at hu
          · cases hu
            split at hv
            · cases hv
              exact .inr ⟨rfl, hxy⟩
            · cases hv
          · cases hu
        · obtain ⟨j, hj, he2⟩ := List.mem_flatMap.1 he'
          have e1 := from_i i e he
          have e2 := from_i j e' he2
          have := p1 j hj
          left; omega
    exact key _ (List.pairwise_lt_range' (s := 0) (n := (found a).length))
end Go.Proofs.YtfhgnlkdcdlblaaGreatDoor

/- Contract: overseerref03's Found. -/
namespace Go.Proofs.YtfhgnlkdcdlblaaGreatDoor
open Go.Lg

set_option maxHeartbeats 1000000 in
theorem foundR_ok {L : List Nat} {w : World} {va vm ve : Value} {a : Aut} (h : AutA L w.heap va vm ve a) (ho : Okay a) :
    Ret Tryz.prog 81 [.agg #[va, .int .i64 a.st, vm, ve]] w fun r w' => Step [] w w' ∧ IntsO 3 w.heap.size w' r (found a) := by
  have h0 := ho.st0
  have h1 := ho.st1
  have hal := ho.al_le
  refine Ret.of_W Tryz.func81 rfl Tryz.ntmps81 Tryz.results81 (by simp) ?_
  refine W_seq <| W_region (by rfl) ?_
  refine xl rfl <| o_box (us := [va, .int .i64 a.st, vm, ve]) rfl fun b1 w1 hs1 hb1 hB1 => x r_assign <| xe ?_
  refine W_seq <| W_region (by rfl) ?_
  refine x r_assign <| xe ?_
  have hz1 := hs1.size
  have hl1 := hB1.lt
  refine W_cut (α := Value) [(3, 3), (7, 12)] (fun z => [(3, z)]) (fun z w' => Step [] w1 w' ∧ IntsO 3 w1.heap.size w' z (fd0 a)) (by rfl) ?_ ?_
  · refine W_seq <| W_region (by rfl) ?_
    refine x (r_fieldB rfl) <| x (r_loadB hB1 rfl rfl) <| x (r_gtr rfl rfl) <| xe ?_
    refine W_ifn rfl (fun h9 => ?_) (fun h9 => ?_)
    · refine W_skip ?_
      exact ⟨.slice none 0 0, ⟨rfl, trivial⟩, Step.refl _ _, by unfold fd0; rw [if_neg h9]; exact own_nil _ _ _ _⟩
    refine W_region (by rfl) ?_
    refine x r_move <| xl rfl <| o_lits (us := [[.int .i64 0]]) rfl rfl (by decide) (by simp) ⟨rfl, rfl, trivial⟩ fun b11 w2 hs2 hb11 hB11 => ?_
    have hn : w2.ownsRow w1.heap.size 3 1 (.slice none 0 0) 0 [] := own_nil _ _ _ _
    have hz2 := hs2.size
    refine xl rfl <| o_app (news := [.int .i64 0]) (L := []) hn rfl rfl rfl (hB11.at (by simp)) (by simp [Value.oneCell']) (by omega) (by omega) fun v3 w3 ho3 hs3 hn3 =>
      x r_assign <| xe ?_
    refine ⟨v3, ⟨rfl, trivial⟩, hs2.then hs3 (fun b hb => by simp [ob] at hb), ?_⟩
    unfold fd0
    rw [if_pos h9]; exact ho3
  rintro v0 g4 w4 ⟨hs4, ho4⟩
  have hW4 := hs1.trans hs4
  have hz4 := hs4.size
  refine exE (found a) fun T hT => ?_
  have hT' : fdL a a.st.toNat 0 (fd0 a) = T := hT
  refine W_seq <| W_seq <| W_region (by rfl) ?_
  refine x r_assign <| xe ?_
  refine W_block <| W_loop (α := Nat × List Int × Value) [(3, 6), (13, 48)] (fun z => [(3, z.2.2), (4, .int .i64 z.1)])
    (fun z w' => Step [] w1 w' ∧ IntsO 3 w1.heap.size w' z.2.2 z.2.1 ∧ FdOk a z.2.1 ∧ z.1 ≤ z.2.1.length ∧ fdL a (a.st.toNat - z.1) z.1 z.2.1 = T) (fun z => a.st.toNat - z.1) (by rfl) (0, fd0 a, v0) ⟨rfl, rfl, trivial⟩
    ⟨hs4, ho4, fd0_ok a, Nat.zero_le _, hT'⟩ ?_
  rintro ⟨i, out, v⟩ g5 w5 ⟨hs5, ho5, hfd, hi, hr5⟩
  simp only [] at ho5 hfd hi hr5
  have hlen := hfd.len h0
  have hI5 := IntsO.ints (L := []) ho5 (by omega) (by simp)
  refine W_seq <| W_seq <| W_region (by rfl) ?_
  refine x r_move <| x r_move <| x (r_lenA hI5 rfl) <| x (r_lss rfl rfl) <| xe ?_
  refine W_ifn rfl (fun h16 => ?_) (fun h16 => ?_)
  · have e : out = T := by
      rw [← hr5]
      generalize a.st.toNat - i = f
      cases f with
      | zero => rfl
      | succ f => rw [fdL, if_neg (by omega)]
    refine W_exit ?_
    refine W_seq <| W_region (by rfl) ?_
    refine x r_move <| x r_assign <| xe ?_
    rw [e] at ho5
    exact W_ret ⟨[v], ⟨rfl, trivial⟩, hs1.trans hs5, by rw [hT]; exact own_base ho5 hz1⟩
  have hlt : i < out.length := by omega
  have hfu : a.st.toNat - i = (a.st.toNat - (i + 1)) + 1 := by omega
  rw [hfu, fdL, if_pos hlt] at hr5
  refine exE (cget out i) fun s hse => ?_
  rw [hse] at hr5
  refine exE (fdR a out s) fun R hR => ?_
  rw [hR] at hr5
  unfold fdR at hR
  refine W_skip ?_
  refine W_seq <| W_block <| W_seq <| W_region (by rfl) ?_
  refine x r_assign <| xe ?_
  refine W_block <| W_loop (α := Nat × List Int × Value) [(3, 3), (5, 6), (19, 48)] (fun z => [(3, z.2.2), (5, .int .i64 z.1)])
    (fun z w' => Step [] w1 w' ∧ IntsO 3 w1.heap.size w' z.2.2 z.2.1 ∧ FdOk a z.2.1 ∧ z.1 ≤ a.al.length ∧ i < z.2.1.length ∧ cget z.2.1 i = s ∧ (a.al.drop z.1).foldl (fdE a s) z.2.1 = R) (fun z => a.al.length - z.1) (by rfl) (0, out, v) ⟨rfl, rfl, trivial⟩
    ⟨hs5, ho5, hfd, Nat.zero_le _, hlt, hse, hR⟩ ?_
  clear hs5 ho5 hfd hi hlen hI5 hlt hse hR h16
  rintro ⟨k, out, v⟩ g6 w6 ⟨hs6, ho6, hfd, hk, hlt, hse, hr6⟩
  simp only [] at ho6 hfd hk hlt hse hr6
  have hlen := hfd.len h0
  have hal6 := (h.al.ext hs1).ext hs6
  have hB16 := hB1.ext hs6
  have hI6 := IntsO.ints (L := []) ho6 (by omega) (by simp)
  refine W_seq <| W_seq <| W_region (by rfl) ?_
  refine x r_move <| x (r_fieldB rfl) <| x (r_loadB hB16 rfl rfl) <| x (r_lenA hal6 rfl) <| x (r_lss rfl rfl) <| xe ?_
  refine W_ifn rfl (fun h23 => ?_) (fun h23 => ?_)
  · refine W_exit ?_
    refine W_region (by rfl) ?_
    refine x r_move <| x (r_add rfl rfl ⟨by omega, by omega⟩) <| x r_assign <| xe ?_
    rw [List.drop_of_length_le (by omega)] at hr6
    have hr6' : out = R := hr6
    exact ⟨(i + 1, out, v), by simp only []; omega, ⟨rfl, rfl, trivial⟩, hs6, ho6, hfd, hlt, by simp only []; rw [hr6']; exact hr5⟩
  have hltk : k < a.al.length := by omega
  rw [List.drop_eq_getElem_cons hltk, List.foldl_cons, cget_eq hltk] at hr6
  refine exE (cget a.al k) fun u hu => ?_
  rw [hu] at hr6
  have hed6 := (h.ed.ext hs1).ext hs6
  refine exE (nxt a.ed s u) fun t ht => ?_
  have hfe : fdE a s out u = if 0 ≤ t ∧ t ∉ out then out ++ [t] else out := by unfold fdE; rw [ht]
  have hok' := fdE_ok ho hfd s u
  rw [hfe] at hr6 hok'
  refine W_skip ?_
  refine W_seq <| W_block <| W_seq <| W_draw (Step [] w6) [(0, true), (1, true), (2, true), (3, true), (4, true), (5, true), (6, true), (7, true), (8, true), (9, true), (10, false), (11, true)] Tryz.mixed (by rfl) (by kernel_rfl) (Step.drew _ _) ?_
  refine pq (fun _ hc => r_loadsB (hB16.ext hc) rfl rfl) <| p (fun _ => r_move) <| p (fun _ => r_move) <| pic (i := i) rfl hI6 rfl rfl hlt fun a29 h29 => ?_
  rw [hse] at h29
  refine pq (fun _ hc => r_loadA (h29.ext hc) rfl) <| p (fun _ => r_fieldB rfl) <| pq (fun _ hc => r_loadB (hB16.ext hc) rfl rfl) <| p (fun _ => r_move) <|
    pic (i := k) rfl hal6 rfl rfl hltk fun a34 h34 => ?_
  rw [hu] at h34
  have hsr := stepR_ok (va := va) (vm := vm) (a := a) (hed6.ext (Step.drew [] w6)) s u a.st
  rw [ht] at hsr
  refine pq (fun _ hc => r_loadA (h34.ext hc) rfl) <| pk <| xf <| hsr.mono ?_
  rintro r7 w7 ⟨rfl, hs7⟩
  have hs67 := (Step.drew [] w6).trans hs7
  refine ⟨hs67, p (fun _ => r_assign) <| pe ?_⟩
  have ho7 := own_ext ho6 hs67
  have hI7 := hI6.ext hs67
  refine W_cut (α := Unit) [(37, 44)] (fun z => [(44, .bool (decide (0 ≤ t ∧ t ∉ out)))]) (fun z w' => w' = w7) (by rfl) ?_ ?_
  · refine W_region (by rfl) ?_
    refine x r_move <| xb (r_geq rfl rfl) (fun h38 => ?_) (fun h38 => ?_)
    · refine x r_move <| x r_move <| x r_move <| xl rfl <| xf <| (hasR_ok hI7 t).mono ?_
      rintro r8 w8 ⟨rfl, rfl⟩
      refine x (r_not rfl) <| x (r_pick rfl) <| xe ?_
      refine ⟨(), ⟨congrArg Value.bool ?_, trivial⟩, rfl⟩
      show (!decide (t ∈ out)) = _
      rw [Bool.eq_iff_iff]; simp [h38]
    refine x r_move <| xs rfl <| xs rfl <| xs rfl <| xs rfl <| x (r_pick rfl) <| xe ?_
    exact ⟨(), ⟨congrArg Value.bool (decide_eq_false (fun e => h38 e.1)).symm, trivial⟩, rfl⟩
  rintro _ g9 w9 rfl
  refine W_ifn rfl (fun h44 => ?_) (fun h44 => ?_)
  · rw [if_neg h44] at hr6
    refine W_skip ?_
    refine W_region (by rfl) ?_
    refine x r_move <| x (r_add rfl rfl ⟨by omega, by omega⟩) <| x r_assign <| xe ?_
    exact ⟨(k + 1, out, v), by simp only []; omega, ⟨rfl, rfl, trivial⟩, hs6.trans hs67, ho7, hfd, hltk, hlt, hse, hr6⟩
  rw [if_pos h44] at hr6 hok'
  have hs17 := hs6.trans hs67
  have hz7 := hs17.size
  refine W_region (by rfl) ?_
  refine x r_move <| x r_move <| xl rfl <| o_lits (us := [[.int .i64 t]]) rfl rfl (by decide) (by simp) ⟨rfl, rfl, trivial⟩ fun b47 w10 hs10 hb47 hB47 => ?_
  have ho10 := own_ext ho7 hs10
  have hz10 := hs10.size
  refine xl rfl <| o_app (news := [.int .i64 t]) (L := []) ho10 rfl rfl rfl (hB47.at (by simp)) (by simp [Value.oneCell']) (by omega) (by omega) fun v11 w11 ho11 hs11 hn11 =>
    x r_assign <| xe ?_
  have hge := own_ge ho6
  refine W_region (by rfl) ?_
  refine x r_move <| x (r_add rfl rfl ⟨by omega, by omega⟩) <| x r_assign <| xe ?_
  refine ⟨(k + 1, out ++ [t], v11), by simp only []; omega, ⟨rfl, rfl, trivial⟩, (hs17.trans hs10).then hs11 (fun b hb => .inr (hge b hb).1), IntsO.snoc ho11, hok', hltk, by simp; omega, ?_, hr6⟩
  simp only []
  rw [cget_pre hlt]; exact hse
end Go.Proofs.YtfhgnlkdcdlblaaGreatDoor

/- Contract: overseerref03's Canonical. -/
namespace Go.Proofs.YtfhgnlkdcdlblaaGreatDoor
open Go.Lg

/-- What the loops hold. -/
structure CrI (w7 : World) (b4 : Nat) (vcl : Value) (n : Int) (vm vd : Value) (M : List Int) (E : List Ed) (w : World) : Prop where
  st : Step [b4] w7 w
  B : Blk w.heap b4 35 [vcl, .int .i64 n, vm, vd]
  m : IntsO 3 w7.heap.size w vm M
  e : EdsO 85 w7.heap.size w vd E
  dj : Dj vm vd
section
variable {w7 w w' w'' : World} {b4 : Nat} {vcl : Value} {n : Int} {vm vd : Value} {M : List Int} {E : List Ed}
theorem CrI.ext (h : CrI w7 b4 vcl n vm vd M E w) (hs : Step [] w w') : CrI w7 b4 vcl n vm vd M E w' := ⟨h.st.trans hs, h.B.ext hs, own_ext h.m hs, own_ext h.e hs, h.dj⟩
theorem CrI.setM (h : CrI w7 b4 vcl n vm vd M E w) (hb : b4 < w7.heap.size) {vm' : Value} {M' : List Int} (hs : Step (ob vm) w w') (hm : IntsO 3 w7.heap.size w' vm' M') (hn : ∀ b ∈ ob vm', b ∈ ob vm ∨ w.heap.size ≤ b) (hs2 : Step [b4] w' w'')
    (hB : Blk w''.heap b4 35 [vcl, .int .i64 n, vm', vd]) : CrI w7 b4 vcl n vm' vd M' E w'' :=
  ⟨(h.st.then hs (fun b hb => .inr (own_ge h.m b hb).1)).trans' hs2, hB, own_step hm hs2 (fun b hb' => by have := (own_ge hm b hb').1; simp; omega),
    own_step (own_step h.e hs h.dj.symm) hs2 (fun b hb' => by have := (own_ge h.e b hb').1; simp; omega), (h.dj.symm.grow hn (own_lt h.e)).symm⟩
theorem CrI.setE (h : CrI w7 b4 vcl n vm vd M E w) (hb : b4 < w7.heap.size) {vd' : Value} {E' : List Ed} (hs : Step (ob vd) w w') (hm : EdsO 85 w7.heap.size w' vd' E') (hn : ∀ b ∈ ob vd', b ∈ ob vd ∨ w.heap.size ≤ b) (hs2 : Step [b4] w' w'')
    (hB : Blk w''.heap b4 35 [vcl, .int .i64 n, vm, vd']) : CrI w7 b4 vcl n vm vd' M E' w'' :=
  ⟨(h.st.then hs (fun b hb => .inr (own_ge h.e b hb).1)).trans' hs2, hB, own_step (own_step h.m hs h.dj) hs2 (fun b hb' => by have := (own_ge h.m b hb').1; simp; omega),
    own_step hm hs2 (fun b hb' => by have := (own_ge hm b hb').1; simp; omega), h.dj.grow hn (own_lt h.m)⟩
end
theorem canM_succ (a : Aut) (fd : List Int) (k : Nat) : canM a fd (k + 1) = if cget fd k ∈ a.mr then canM a fd k ++ [(k : Int)] else canM a fd k := by
  unfold canM
  rw [List.range'_1_concat, List.filter_append, List.map_append, Nat.zero_add]
  by_cases h : cget fd k ∈ a.mr
  · rw [if_pos h, List.filter_cons, if_pos (decide_eq_true h)]; rfl
  · rw [if_neg h, List.filter_cons, if_neg (by rw [decide_eq_false h]; simp), List.filter_nil, List.map_nil, List.append_nil]
theorem canM_len (a : Aut) (fd : List Int) : ∀ k, (canM a fd k).length ≤ k
  | 0 => by simp [canM]
  | k + 1 => by
    have := canM_len a fd k
    rw [canM_succ]
    split
    · simp; omega
    · omega
theorem canE_succ (a : Aut) (fd : List Int) (k : Nat) : canE a fd (k + 1) = canE a fd k ++ a.al.filterMap (canF a fd k) := by
  unfold canE
  rw [List.range'_1_concat, List.flatMap_append, Nat.zero_add]; simp

set_option maxHeartbeats 2000000 in
theorem canonicalR_ok {L : List Nat} {w : World} {va vm ve : Value} {a : Aut} (h : AutA L w.heap va vm ve a) (ho : Okay a) :
    Ret Tryz.prog 60 [.agg #[va, .int .i64 a.st, vm, ve]] w fun r w' => Step [] w w' ∧ AutF w.heap.size w'.heap r (canR a) := by
  have h0 := ho.st0
  have h1 := ho.st1
  have hal := ho.al_le
  have hfo := (found_ok ho).1
  have hfl := hfo.len h0
  refine Ret.of_W Tryz.func60 rfl Tryz.ntmps60 Tryz.results60 (by simp) ?_
  refine exE (found a) fun fd hfd => ?_
  rw [hfd] at hfl
  have hcan : canR a = ⟨a.al, fd.length, canM a fd fd.length, canE a fd fd.length⟩ := by unfold canR; rw [hfd]
  refine W_seq <| W_region (by rfl) ?_
  refine xl rfl <| o_box (us := [va, .int .i64 a.st, vm, ve]) rfl fun b1 w1 hs1 hb1 hB1 => xl rfl <| o_alloc (us := [.slice none 0 0, .int .i64 0, .slice none 0 0, .slice none 0 0]) rfl fun b2 w2 hs2 hb2 hB2 => xe ?_
  have hs12 := hs1.trans hs2
  have hfr := foundR_ok (h.ext hs12) ho
  rw [hfd] at hfr
  refine W_seq <| W_region (by rfl) ?_
  refine x (r_loadsB (hB1.ext hs2) rfl rfl) <| xl rfl <| xf <| hfr.mono ?_
  rintro vf w3 ⟨hs3, hof⟩
  refine x r_assign <| xe ?_
  have hs13 := hs12.trans hs3
  have hB13 := (hB1.ext hs2).ext hs3
  refine W_seq <| W_region (by rfl) ?_
  refine x (r_fieldB rfl) <| x (r_loadB hB13 rfl rfl) <| xl rfl <| xf <| (emptyR_ok (h.al.ext hs13) (by omega)).mono ?_
  rintro r4 w4 ⟨hs4, vcl, rfl, hcl⟩
  have hclA := IntsO.ints (L := []) hcl (by omega) (by simp)
  refine xl rfl <| o_alloc (us := [.slice none 0 0, .int .i64 0, .slice none 0 0, .slice none 0 0]) rfl fun b4 w5 hs5 hb4 hB4 =>
    xl rfl <| o_stores (us := [vcl, .int .i64 0, .slice none 0 0, .slice none 0 0]) hB4 rfl rfl rfl rfl ⟨hclA.one, rfl, rfl, rfl, trivial⟩ fun w6 hs6 hB6 => xe ?_
  have hs46 : Step [] w4 w6 := hs5.then1 hs6 hb4
  have hs36 := hs4.trans hs46
  have hfA3 := IntsO.ints (L := []) hof (by omega) (by simp)
  have hz1 := hs1.size
  have hz2 := hs2.size
  have hz3 := hs3.size
  have hz4 := hs4.size
  have hz46 := hs46.size
  have hl1 := hB1.lt
  have hl2 := hB2.lt
  have hl4 := hB6.lt
  refine W_seq <| W_region (by rfl) ?_
  refine x r_move <| x (r_lenA hfA3 rfl) <| x (r_fieldB rfl) <| xl rfl <| o_store (u := .int .i64 fd.length) hB6 rfl rfl (by simp) rfl fun w7 hs7 hB7 => xe ?_
  have hz7 := hs7.size
  have hs37 : Step [b4] w3 w7 := (hs36.any (L := [b4])).trans' hs7
  have hW7 : Step [] w w7 := (hs13.trans hs36).then1 hs7 (by omega)
  have hf7 : Ints [b4] w7.heap vf fd := ((hfA3.up (L' := [b4]) (fun b hb => .inr (by simp at hb; omega))).ext hs36).st hs7
  have ha7 : AutA [b4] w7.heap va vm ve a := (h.up (fun b hb => .inr (by simp at hb; omega))).ext hW7
  have hc7 : IntsO 3 w3.heap.size w7 vcl a.al := own_step (own_ext hcl hs46) hs7 (fun b hb => by have := own_lt hcl b hb; simp; omega)
  have hB17 := (hB13.ext hs36).step hs7 (by simp; omega)
  have hB27 := ((hB2.ext hs3).ext hs36).step hs7 (by simp; omega)
  have hl7 : b4 < w7.heap.size := by omega
  have n1 : b1 ∉ [b4] := by simp; omega
  have n2 : b2 ∉ [b4] := by simp; omega
  refine W_seq <| W_seq <| W_region (by rfl) ?_
  refine x r_assign <| xe ?_
  refine W_block <| W_loop (α := Nat × Value × Value) [(5, 7), (16, 69)] (fun z => [(5, .int .i64 z.1)])
    (fun z w' => z.1 ≤ fd.length ∧ CrI w7 b4 vcl fd.length z.2.1 z.2.2 (canM a fd z.1) (canE a fd z.1) w' ∧ (canE a fd z.1).length ≤ z.1 * 32) (fun z => fd.length - z.1) (by rfl) (0, .slice none 0 0, .slice none 0 0) ⟨rfl, trivial⟩
    ⟨Nat.zero_le _, ⟨Step.refl _ _, hB7, own_nil _ _ _ _, own_nil _ _ _ _, Dj.nil' _⟩, Nat.zero_le _⟩ ?_
  rintro ⟨i, v1, v2⟩ g8 w8 ⟨hi, hI, hel⟩
  simp only [] at hi hI hel
  have hml := canM_len a fd i
  have hf8 := hf7.st hI.st
  refine W_seq <| W_seq <| W_region (by rfl) ?_
  refine x r_move <| x r_move <| x (r_lenA hf8 rfl) <| x (r_lss rfl rfl) <| xe ?_
  refine W_ifn rfl (fun h19 => ?_) (fun h19 => ?_)
  · have hie : i = fd.length := by omega
    rw [hie] at hI hel hml
    refine W_exit ?_
    have hmA := IntsO.ints (L := []) hI.m (by omega) (by simp)
    have heA := EdsO.eds (L := []) hI.e (by omega) (by simp)
    refine W_seq <| W_region (by rfl) ?_
    refine x (r_loadsB hI.B rfl rfl) <| xl rfl <| o_stores (us := [vcl, .int .i64 fd.length, v1, v2]) (hB27.step hI.st n2) rfl rfl rfl rfl ⟨hclA.one, rfl, hmA.one, heA.one, trivial⟩ fun w9 hs9 hB9 => xe ?_
    refine W_ret ⟨[.agg #[vcl, .int .i64 fd.length, v1, v2]], ⟨⟨_, rfl, run_loadVar_ag rfl (hB9.at (L := []) (by simp)).cells⟩, trivial⟩, (hW7.then1 hI.st (by omega)).then1 hs9 (by omega), ?_⟩
    rw [hcan]
    have k1 := own_step (own_step hc7 hI.st (fun b hb => by have := own_lt hcl b hb; simp; omega)) hs9 (fun b hb => by have := (own_ge hcl b hb).1; simp; omega)
    have k2 := own_step hI.m hs9 (fun b hb => by have := (own_ge hI.m b hb).1; simp; omega)
    have k3 := own_step hI.e hs9 (fun b hb => by have := (own_ge hI.e b hb).1; simp; omega)
    refine ⟨vcl, v1, v2, rfl, fun L' hL' => ⟨?_, ?_, ?_⟩⟩
    · exact IntsO.ints k1 (by show a.al.length ≤ _; omega) (fun b hb => by have := hL' b hb; omega)
    · exact IntsO.ints k2 (by show (canM a fd fd.length).length ≤ _; omega) (fun b hb => by have := hL' b hb; omega)
    · exact EdsO.eds k3 (by show (canE a fd fd.length).length ≤ _; omega) (fun b hb => by have := hL' b hb; omega)
  have hlt : i < fd.length := by omega
  refine exE (cget fd i) fun s hse => ?_
  have hms := canM_succ a fd i
  rw [hse] at hms
  refine W_skip ?_
  refine W_seq <| W_block <| W_cut (α := Value) [(22, 34)] (fun z => []) (fun z w' => CrI w7 b4 vcl fd.length z v2 (canM a fd (i + 1)) (canE a fd i) w') (by rfl) ?_ ?_
  · have ha8 := ha7.st hI.st
    have hB18 := hB17.step hI.st n1
    refine W_seq <| W_draw (Step [] w8) [(0, true), (1, true), (2, true), (3, true), (4, true), (5, true), (6, false)] Tryz.mixed (by rfl) (by kernel_rfl) (Step.drew _ _) ?_
    refine p (fun _ => r_fieldB rfl) <| pq (fun _ hc => r_loadB (hB18.ext hc) rfl rfl) <| p (fun _ => r_move) <| p (fun _ => r_move) <| pic (i := i) rfl hf8 rfl rfl hlt fun a26 h26 => ?_
    rw [hse] at h26
    refine pq (fun _ hc => r_loadA (h26.ext hc) rfl) <| pk <| xf <| (hasR_ok (ha8.mr.ext (Step.drew [] w8)) s).mono ?_
    rintro r10 w10 ⟨rfl, rfl⟩
    have hI10 := hI.ext (Step.drew [] w8)
    refine ⟨Step.drew _ _, pe ?_⟩
    refine W_ifn rfl (fun h28 => ?_) (fun h28 => ?_)
    · rw [if_neg h28] at hms
      refine W_skip ?_
      exact ⟨v1, trivial, by rw [hms]; exact hI10⟩
    rw [if_pos h28] at hms
    refine W_region (by rfl) ?_
    refine x (r_fieldB rfl) <| x (r_loadB hI10.B rfl rfl) <| x r_move <| xl rfl <| o_lits (us := [[.int .i64 i]]) rfl rfl (by decide) (by simp) ⟨rfl, rfl, trivial⟩ fun b32 w11 hs11 hb32 hB32 => ?_
    have hI11 := hI10.ext hs11
    refine xl rfl <| o_app (news := [.int .i64 i]) (L := []) hI11.m rfl rfl rfl (hB32.at (by simp)) (by simp [Value.oneCell']) (by omega) hI11.st.size fun v12 w12 ho12 hs12 hn12 => ?_
    have ho12' : IntsO 3 w7.heap.size w12 v12 (canM a fd i ++ [(i : Int)]) := IntsO.snoc ho12
    refine x (r_fieldB rfl) <| xl rfl <| o_store (hI11.B.step hs12 (own_notin hI11.m hl7)) rfl rfl (by simp) (IntsO.ints (L := []) ho12' (by simp; omega) (by simp)).one fun w13 hs13' hB13' =>
      xe ?_
    exact ⟨v12, trivial, by rw [hms]; exact hI11.setM hl7 hs12 ho12' hn12 hs13' hB13'⟩
  rintro v3 g14 w14 hI14
  refine exE (canE a fd (i + 1)) fun E1 hE1 => ?_
  have hE1' := canE_succ a fd i
  rw [hE1] at hE1'
  refine W_seq <| W_region (by rfl) ?_
  refine x r_assign <| xe ?_
  refine W_block <| W_loop (α := Nat × List Ed × Value) [(6, 7), (35, 69)] (fun z => [(6, .int .i64 z.1)])
    (fun z w' => z.1 ≤ a.al.length ∧ CrI w7 b4 vcl fd.length v3 z.2.2 (canM a fd (i + 1)) z.2.1 w' ∧ z.2.1.length ≤ i * 32 + z.1 ∧ z.2.1 ++ (a.al.drop z.1).filterMap (canF a fd i) = E1) (fun z => a.al.length - z.1) (by rfl) (0, canE a fd i, v2) ⟨rfl, trivial⟩
    ⟨Nat.zero_le _, hI14, hel, hE1'.symm⟩ ?_
  rintro ⟨k, E, vd⟩ g15 w15 ⟨hk, hI15, hl15, hr15⟩
  simp only [] at hk hI15 hl15 hr15
  have ha15 := ha7.st hI15.st
  have hB115 := hB17.step hI15.st n1
  have hf15 := hf7.st hI15.st
  refine W_seq <| W_seq <| W_region (by rfl) ?_
  refine x r_move <| x (r_fieldB rfl) <| x (r_loadB hB115 rfl rfl) <| x (r_lenA ha15.al rfl) <| x (r_lss rfl rfl) <| xe ?_
  refine W_ifn rfl (fun h39 => ?_) (fun h39 => ?_)
  · refine W_exit ?_
    refine W_region (by rfl) ?_
    refine x r_move <| x (r_add rfl rfl ⟨by omega, by omega⟩) <| x r_assign <| xe ?_
    rw [List.drop_of_length_le (by omega), List.filterMap_nil, List.append_nil] at hr15
    refine ⟨(i + 1, v3, vd), by simp only []; omega, ⟨rfl, trivial⟩, hlt, ?_, ?_⟩
    · simp only []; rw [hE1, ← hr15]; exact hI15
    · simp only []; rw [hE1, ← hr15]; omega
  have hltk : k < a.al.length := by omega
  refine exE (cget a.al k) fun u hu => ?_
  rw [List.drop_eq_getElem_cons hltk, cget_eq hltk, hu, List.filterMap_cons] at hr15
  refine exE (nxt a.ed s u) fun t ht => ?_
  have hcf : canF a fd i u = if 0 ≤ t then some ((i : Int), u, ixR fd t) else none := by unfold canF; rw [hse, ht]
  rw [hcf] at hr15
  have hsr := stepR_ok (va := va) (vm := vm) (a := a) (ha15.ed.ext (Step.drew [] w15)) s u a.st
  rw [ht] at hsr
  refine W_skip ?_
  refine W_seq <| W_block <| W_seq <| W_draw (Step [] w15) [(0, true), (1, true), (2, true), (3, true), (4, true), (5, true), (6, true), (7, true), (8, true), (9, true), (10, false), (11, true)] Tryz.mixed (by rfl) (by kernel_rfl) (Step.drew _ _) ?_
  refine pq (fun _ hc => r_loadsB (hB115.ext hc) rfl rfl) <| p (fun _ => r_move) <| p (fun _ => r_move) <| pic (i := i) rfl hf15 rfl rfl hlt fun a45 h45 => ?_
  rw [hse] at h45
  refine pq (fun _ hc => r_loadA (h45.ext hc) rfl) <| p (fun _ => r_fieldB rfl) <| pq (fun _ hc => r_loadB (hB115.ext hc) rfl rfl) <| p (fun _ => r_move) <|
    pic (i := k) rfl ha15.al rfl rfl hltk fun a50 h50 => ?_
  rw [hu] at h50
  refine pq (fun _ hc => r_loadA (h50.ext hc) rfl) <| pk <| xf <| hsr.mono ?_
  rintro r16 w16 ⟨rfl, hs16⟩
  have hs1516 := (Step.drew [] w15).trans hs16
  refine ⟨hs1516, p (fun _ => r_assign) <| pe ?_⟩
  have hI16 := hI15.ext hs1516
  have hB116 := hB115.ext hs1516
  have hf16 := hf15.ext hs1516
  refine W_seq <| W_region (by rfl) ?_
  refine x r_move <| x (r_geq rfl rfl) <| xe ?_
  refine W_ifn rfl (fun h54 => ?_) (fun h54 => ?_)
  · rw [if_neg h54] at hr15
    refine W_skip ?_
    refine W_region (by rfl) ?_
    refine x r_move <| x (r_add rfl rfl ⟨by omega, by omega⟩) <| x r_assign <| xe ?_
    exact ⟨(k + 1, E, vd), by simp only []; omega, ⟨rfl, trivial⟩, hltk, hI16, by simp only []; omega, hr15⟩
  rw [if_pos h54] at hr15
  have hvd := own_ge hI15.e
  have haD : Ints (b4 :: ob vd) w16.heap va a.al := (((ha7.al.up (L' := b4 :: ob vd) (fun b hb => by
    rcases List.mem_cons.1 hb with rfl | hb
    · exact .inl (by simp)
    · exact .inr (hvd b hb).1)).step hI15.st (by simp)).ext hs1516)
  have nb4 := own_notin hI16.e hl7
  have nb1 : b1 ∉ ob vd := own_notin hI16.e (by omega)
  refine W_draw (Step (ob vd) w16) [(0, true), (1, true), (2, true), (3, true), (4, true), (5, true), (6, true), (7, true), (8, true), (9, true), (10, false), (11, true), (12, false), (13, false), (14, true), (15, false)] Tryz.mixed (by rfl) (by kernel_rfl) (Step.drew _ _) ?_
  refine p (fun _ => r_fieldB rfl) <| pq (fun _ hc => r_loadB (hI16.B.step hc nb4) rfl rfl) <| p (fun _ => r_move) <| p (fun _ => r_fieldB rfl) <| pq (fun _ hc => r_loadB (hB116.step hc nb1) rfl rfl) <|
    p (fun _ => r_move) <| pic (i := k) rfl haD rfl rfl hltk fun a61 h61 => ?_
  rw [hu] at h61
  refine pq (fun _ hc => r_loadA (h61.step hc (fun b hb => List.mem_cons_of_mem _ hb)) rfl) <| p (fun _ => r_move) <| p (fun _ => r_move) <|
    pk <| xf <| (indexR_ok (hf16.ext (Step.drew [] w16)) t).mono ?_
  rintro r17 w17 ⟨rfl, rfl⟩
  refine ⟨Step.drew _ _, p (fun _ => r_build ⟨rfl, rfl, rfl, trivial⟩) <| pk <| o_lits (us := [edCells ((i : Int), u, ixR fd t)]) rfl rfl (by decide) (by exact (by decide : 1 * 3 ≤ 1000000)) ⟨rfl, rfl, trivial⟩ fun b67 w18 hs18 hb67 hB67 => ?_⟩
  have hs1618 := (Step.drew [] w16).trans hs18
  have hI18 := hI16.ext hs1618
  refine ⟨hs1618.any, ?_⟩
  refine pk <| o_app (news := edCells ((i : Int), u, ixR fd t)) (L := []) hI18.e rfl rfl rfl (hB67.at (by simp)) (fun y hy => by simp only [edCells, List.mem_cons, List.not_mem_nil, or_false] at hy; rcases hy with rfl | rfl | rfl <;> rfl) (by omega) hI18.st.size fun v19 w19 ho19 hs19 hn19 => ⟨(hs1618.any (L := ob vd)).trans' hs19, ?_⟩
  have ho19' : EdsO 85 w7.heap.size w19 v19 (E ++ [((i : Int), u, ixR fd t)]) := EdsO.snoc ho19
  refine p (fun _ => r_fieldB rfl) <| pkl (hl := by kernel_rfl) <| o_store (hI18.B.step hs19 (own_notin hI18.e hl7)) rfl rfl (by simp) (EdsO.eds (L := []) ho19' (by simp; omega) (by simp)).one fun w20 hs20 hB20 =>
    pe ?_
  have hI20 := hI18.setE hl7 hs19 ho19' hn19 hs20 hB20
  refine W_region (by rfl) ?_
  refine x r_move <| x (r_add rfl rfl ⟨by omega, by omega⟩) <| x r_assign <| xe ?_
  refine ⟨(k + 1, E ++ [((i : Int), u, ixR fd t)], v19), by simp only []; omega, ⟨rfl, trivial⟩, hltk, hI20, by simp; omega, ?_⟩
  simp only [List.append_assoc, List.singleton_append]
  exact hr15
end Go.Proofs.YtfhgnlkdcdlblaaGreatDoor

/- Contracts: overseerlaw03's Events. The remainder of a division. -/
namespace Go.Lg
section
variable {P : Program} {f : Fr} {w : World} {d : Option Nat} {ty : Nat} {ps : String} {af : Array Edge} {gd : Option (Nat × Bool)}
theorem r_rem {t t' : Nat} {x y : Operand} {k : IntKind} {a b : Int} (hx : ev f x = .int k a) (hy : ev f y = .int k b) (ha : 0 ≤ a) (hb : 0 < b) :
    (execOp (ev f) ⟨d, .binOp .rem t x y t', ty, ps, af, gd⟩).run P w = .ok (.value (.int k (a % b))) w := by
  refine r_bin hx hy ?_
  have h1 : ¬ b = 0 := by omega
  simp [binOp, Op.intDiv, h1, Int.tmod_eq_emod_of_nonneg ha]
end
end Go.Lg
namespace Go.Proofs.YtfhgnlkdcdlblaaGreatDoor
open Go.Lg

theorem events3_ok (m : Nat) (hm : m < 256) (w : World) : Ret Tryz.prog 27 [.int .u8 m] w fun r w' => Step [] w w' ∧ IntsO 3 w.heap.size w' r (setK m 5) := by
  refine Ret.of_W Tryz.func27 rfl Tryz.ntmps27 Tryz.results27 (by simp) ?_
  refine W_seq <| W_region (by rfl) ?_
  refine x r_assign <| xe ?_
  refine W_seq <| W_region (by rfl) ?_
  refine x r_assign <| xe ?_
  refine W_seq <| W_seq <| W_region (by rfl) ?_
  refine x r_assign <| xe ?_
  refine W_block <| W_loop (α := Nat × Value) [(3, 17)] (fun z => [(3, z.2), (4, .int .i64 z.1)]) (fun z w' => z.1 ≤ 5 ∧ Step [] w w' ∧ IntsO 3 w.heap.size w' z.2 (setK m z.1)) (fun z => 5 - z.1) (by rfl) (0, .slice none 0 0) ⟨rfl, rfl, trivial⟩
    ⟨Nat.zero_le _, Step.refl _ _, own_nil _ _ _ _⟩ ?_
  rintro ⟨k, v⟩ g w1 ⟨hk, hs1, ho1⟩
  simp only [] at hk ho1
  have hlen := setK_len m k
  have hz1 := hs1.size
  refine W_seq <| W_seq <| W_region (by rfl) ?_
  refine x r_move <| x (r_lss rfl rfl) <| xe ?_
  refine W_ifn rfl (fun h6 => ?_) (fun h6 => ?_)
  · refine W_exit ?_
    refine W_seq <| W_region (by rfl) ?_
    refine x r_move <| x r_assign <| xe ?_
    have hke : k = 5 := by omega
    rw [hke] at ho1
    exact W_ret ⟨[v], ⟨rfl, trivial⟩, hs1, ho1⟩
  have hlt : k < 5 := by omega
  have hdv : m / 2 ^ k < 256 := Nat.lt_of_le_of_lt (Nat.div_le_self _ _) hm
  have hsucc := setK_succ m k
  refine W_skip ?_
  refine W_seq <| W_block <| W_seq <| W_region (by rfl) ?_
  refine x r_move <| x r_move <| x (r_shr (n := k) rfl rfl (by show k ≤ 8; omega)) <| x (r_and8 (a := m / 2 ^ k) (b := 1) (congrArg (Value.int .u8) (shr_nat m k)) rfl hdv (by decide)) <| x (r_eql rfl rfl) <| xe ?_
  refine W_ifn rfl (fun h12 => ?_) (fun h12 => ?_)
  · rw [if_neg (fun e => h12 (by rw [e]; rfl))] at hsucc
    refine W_skip ?_
    refine W_region (by rfl) ?_
    refine x r_move <| x (r_add rfl rfl ⟨by omega, by omega⟩) <| x r_assign <| xe ?_
    exact ⟨(k + 1, v), by simp only []; omega, ⟨rfl, rfl, trivial⟩, hlt, hs1, by simp only []; rw [hsucc]; exact ho1⟩
  rw [if_pos (by omega)] at hsucc
  refine W_region (by rfl) ?_
  refine x r_move <| x r_move <| xl rfl <| o_lits (us := [[.int .i64 k]]) rfl rfl (by decide) (by simp) ⟨rfl, rfl, trivial⟩ fun b15 w2 hs2 hb15 hB15 => ?_
  have ho2 := own_ext ho1 hs2
  have hz2 := hs2.size
  refine xl rfl <| o_app (news := [.int .i64 k]) (L := []) ho2 rfl rfl rfl (hB15.at (by simp)) (by simp [Value.oneCell']) (by omega) (by omega) fun v3 w3 ho3 hs3 hn3 =>
    x r_assign <| xe ?_
  have hge := own_ge ho1
  refine W_region (by rfl) ?_
  refine x r_move <| x (r_add rfl rfl ⟨by omega, by omega⟩) <| x r_assign <| xe ?_
  refine ⟨(k + 1, v3), by simp only []; omega, ⟨rfl, rfl, trivial⟩, hlt, (hs1.trans hs2).then hs3 (fun b hb => .inr (hge b hb).1), ?_⟩
  simp only []
  rw [hsucc]; exact IntsO.snoc ho3
end Go.Proofs.YtfhgnlkdcdlblaaGreatDoor

/- Contract: overseerlaw03's Make: the automaton of a graph is right, over the alphabet, with at most 5 states. -/
namespace Go.Proofs.YtfhgnlkdcdlblaaGreatDoor
open Go.Lg

instance : Ay Tryz.prog 24 5 23 5 := ⟨by kernel_rfl, by kernel_rfl⟩
instance : Ay Tryz.prog 23 5 5 1 := ⟨by kernel_rfl, by kernel_rfl⟩
/-- Bytes as cells. -/
abbrev bys (ns : List Nat) : List Value := ns.map fun n : Nat => .int .u8 (n : Int)
theorem bys_at {ns : List Nat} {j : Nat} (h : j < ns.length) : (bys ns)[j]? = some (.int .u8 ((ns.getD j 0 : Nat) : Int)) := by simp [bys, List.getD, h]
theorem bys_ones : ∀ (ns : List Nat), OnesL (bys ns)
  | [] => trivial
  | _ :: ns => ⟨rfl, bys_ones ns⟩
theorem getD_lt {ns : List Nat} (h : ∀ n ∈ ns, n < 256) (j : Nat) : ns.getD j 0 < 256 := by
  by_cases hj : j < ns.length
  · simp only [List.getD, List.getElem?_eq_getElem hj, Option.getD_some]; exact h _ (List.getElem_mem hj)
  · simp [List.getD, hj]
/-- What holds while the graph is read. -/
structure GrI (al : List Int) (S i k : Nat) (M : List Int) (E : List Ed) : Prop where
  mb : ∀ x ∈ M, 0 ≤ x ∧ x < S
  mi : Inc M
  ml : ∀ x ∈ M, x < (i : Int) + 1
  mn : M.length ≤ S
  eb : ∀ e ∈ E, 0 ≤ e.1 ∧ e.1 < S ∧ e.2.1 ∈ al ∧ 0 ≤ e.2.2 ∧ e.2.2 < S
  ei : E.Pairwise fun x y => x.1 < y.1 ∨ (x.1 = y.1 ∧ x.2.1 < y.2.1)
  el : ∀ e ∈ E, e.1 < i ∨ (e.1 = i ∧ e.2.1 ∈ al.take k)
  en : E.length ≤ i * 5 + k
theorem inc_len {S : Nat} {M : List Int} (hb : ∀ x ∈ M, 0 ≤ x ∧ x < S) (hi : Inc M) : M.length ≤ S := pig S M (hi.imp (fun h => by omega)) hb
theorem GrI.mark {al : List Int} {S i : Nat} {M : List Int} {E : List Ed} (h : GrI al S i 0 M E) (hm : ∀ x ∈ M, x < (i : Int)) (hi : i < S) : GrI al S i 0 (M ++ [(i : Int)]) E := by
  have hmb : ∀ x ∈ M ++ [(i : Int)], 0 ≤ x ∧ x < S := fun x hx => by
    rcases List.mem_append.1 hx with hx | hx
    · exact h.mb x hx
    · simp only [List.mem_singleton] at hx; omega
  have hmi : Inc (M ++ [(i : Int)]) := by
    refine List.pairwise_append.2 ⟨h.mi, by simp, fun x hx y hy => ?_⟩
    simp only [List.mem_singleton] at hy
    subst hy; exact hm x hx
  refine ⟨hmb, hmi, fun x hx => ?_, inc_len hmb hmi, h.eb, h.ei, h.el, h.en⟩
  rcases List.mem_append.1 hx with hx | hx
  · have := hm x hx; omega
  · simp only [List.mem_singleton] at hx; omega
theorem GrI.skip {al : List Int} {S i k : Nat} {M : List Int} {E : List Ed} (h : GrI al S i k M E) (hk : k < al.length) : GrI al S i (k + 1) M E :=
  ⟨h.mb, h.mi, h.ml, h.mn, h.eb, h.ei, fun e he => (h.el e he).imp id (fun x => ⟨x.1, by rw [List.take_succ_eq_append_getElem hk]; exact List.mem_append_left _ x.2⟩), by have := h.en; omega⟩
theorem GrI.edge {al : List Int} {S i k : Nat} {M : List Int} {E : List Ed} (h : GrI al S i k M E) (hk : k < al.length) (ha : Inc al) (hi : i < S) {t : Int} (h0 : 0 ≤ t) (ht : t < S) : GrI al S i (k + 1) M (E ++ [((i : Int), cget al k, t)]) := by
  have hmem : cget al k ∈ al := cget_mem hk
  refine ⟨h.mb, h.mi, h.ml, h.mn, fun e he => ?_, ?_, fun e he => ?_, by have := h.en; simp; omega⟩
  · rcases List.mem_append.1 he with he | he
    · exact h.eb e he
    · simp only [List.mem_singleton] at he; subst he; exact ⟨by simp only []; omega, by simp only []; omega, hmem, h0, ht⟩
  · refine List.pairwise_append.2 ⟨h.ei, by simp, fun x hx y hy => ?_⟩
    simp only [List.mem_singleton] at hy
    subst hy
    rcases h.el x hx with h1 | ⟨h1, h2⟩
    · left; exact h1
    · right
      refine ⟨h1, ?_⟩
      simp only []
      have hp : Inc (al.take k ++ al.drop k) := by rw [List.take_append_drop]; exact ha
      refine (List.pairwise_append.1 hp).2.2 _ h2 _ ?_
      rw [List.drop_eq_getElem_cons hk, cget_eq hk]; exact List.mem_cons_self
  · rw [List.take_succ_eq_append_getElem hk, cget_eq hk]
    rcases List.mem_append.1 he with he | he
    · exact (h.el e he).imp id (fun x => ⟨x.1, List.mem_append_left _ x.2⟩)
    · simp only [List.mem_singleton] at he; subst he; exact .inr ⟨rfl, List.mem_append_right _ (by simp)⟩
theorem GrI.next {al : List Int} {S i k : Nat} {M : List Int} {E : List Ed} (h : GrI al S i k M E) (hk : k ≤ 5) : GrI al S (i + 1) 0 M E :=
  ⟨h.mb, h.mi, fun x hx => by have := h.ml x hx; omega, h.mn, h.eb, h.ei, fun e he => by rcases h.el e he with h1 | h1 <;> (left; omega), by have := h.en; omega⟩

set_option maxHeartbeats 2000000 in
theorem make3_ok {L : List Nat} {w : World} {v : Value} {al : List Int} {ns : List Nat} (h : Ints L w.heap v al) (hb : ∀ e ∈ al, 0 ≤ e ∧ e < 32) (hi : Inc al) (hn : ns.length = 27) (hns : ∀ n ∈ ns, n < 256) :
    Ret Tryz.prog 26 [v, .agg (bys ns).toArray] w fun r w' => Step [] w w' ∧ ∃ a : Aut, AutF w.heap.size w'.heap r a ∧ Okay a ∧ a.st ≤ 5 ∧ a.al = al := by
  have hall : al.length ≤ 32 := pig 32 al (hi.imp (fun h => by omega)) (fun x hx => by have := hb x hx; omega)
  refine Ret.of_W Tryz.func26 rfl Tryz.ntmps26 Tryz.results26 (by simp) ?_
  have g0 := bys_at (ns := ns) (j := 0) (by omega)
  have g1 := bys_at (ns := ns) (j := 1) (by omega)
  have l0 := getD_lt hns 0
  have l1 := getD_lt hns 1
  refine exE (ns.getD 0 0) fun s0 hs0 => ?_
  refine exE (ns.getD 1 0) fun m1 hm1 => ?_
  rw [hs0] at g0 l0
  rw [hm1] at g1 l1
  refine W_seq <| W_region (by rfl) ?_
  refine xl rfl <| o_box (us := bys ns) rfl fun b3 w1 hs1 hb3 hB3 => xl rfl <| o_alloc (us := [.slice none 0 0, .int .i64 0, .slice none 0 0, .slice none 0 0]) rfl fun b4 w2 hs2 hb4 hB4 => xe ?_
  have hs12 := hs1.trans hs2
  have hB32 := hB3.ext hs2
  have hz1 := hs1.size
  have hz2 := hs2.size
  have hl3 := hB3.lt
  have hl4 := hB4.lt
  refine W_seq <| W_seq <| W_region (by rfl) ?_
  refine x (r_fieldB rfl) <| x (r_loadB hB32 rfl g0) <| x (r_geq rfl rfl) <| xe ?_
  refine W_if rfl (fun h11 => ?_) (fun h11 => ?_)
  · refine W_seq <| W_region (by rfl) ?_
    refine x r_move <| xl rfl <| xf <| (emptyR_ok (h.ext hs12) (by omega)).mono ?_
    rintro r3 w3 ⟨hs3, vcl, rfl, hcl⟩
    have hclA := IntsO.ints (L := []) hcl (by omega) (by simp)
    refine xl rfl <| o_stores (us := [vcl, .int .i64 0, .slice none 0 0, .slice none 0 0]) (hB4.ext hs3) rfl rfl rfl rfl ⟨hclA.one, rfl, rfl, rfl, trivial⟩ fun w4 hs4 hB4' => xe ?_
    have hcl4 := own_step hcl hs4 (fun b hb => by have := (own_ge hcl b hb).1; simp; omega)
    refine W_ret ⟨[.agg #[vcl, .int .i64 0, .slice none 0 0, .slice none 0 0]], ⟨⟨_, rfl, run_loadVar_ag rfl (hB4'.at (L := []) (by simp)).cells⟩, trivial⟩, (hs12.trans hs3).then1 hs4 (by omega), ⟨al, 0, [], []⟩, ?_, ?_, (by decide : (0 : Int) ≤ 5), rfl⟩
    · exact ⟨vcl, _, _, rfl, fun L' hL' => ⟨IntsO.ints hcl4 (by show al.length ≤ _; omega) (fun b hb => by have := hL' b hb; omega), Arr.nil _ _ _, Arr.nil _ _ _⟩⟩
    · exact ⟨hb, hi, (by decide : (0 : Int) ≤ 0), (by decide : (0 : Int) ≤ 4096), by simp, by simp, by simp, by simp⟩
  refine W_skip ?_
  refine W_seq <| W_region (by rfl) ?_
  refine x r_move <| xl rfl <| xf <| (emptyR_ok (h.ext hs12) (by omega)).mono ?_
  rintro r5 w5 ⟨hs5, vcl, rfl, hcl⟩
  have hclA := IntsO.ints (L := []) hcl (by omega) (by simp)
  refine xl rfl <| o_alloc (us := [.slice none 0 0, .int .i64 0, .slice none 0 0, .slice none 0 0]) rfl fun b5 w6 hs6 hb5 hB5 =>
    xl rfl <| o_stores (us := [vcl, .int .i64 0, .slice none 0 0, .slice none 0 0]) hB5 rfl rfl rfl rfl ⟨hclA.one, rfl, rfl, rfl, trivial⟩ fun w7 hs7 hB7 => xe ?_
  have hs57 : Step [] w5 w7 := hs6.then1 hs7 hb5
  have hs27 := hs5.trans hs57
  have hz5 := hs5.size
  have hz57 := hs57.size
  have hl5 := hB7.lt
  refine exE (1 + s0 % 5) fun S hS => ?_
  have hS1 : 1 ≤ S ∧ S ≤ 5 := by omega
  have hSe : (1 : Int) + (s0 : Int) % 5 = (S : Int) := by omega
  refine W_seq <| W_region (by rfl) ?_
  refine x (r_fieldB rfl) <| x (r_loadB (hB32.ext hs27) rfl g0) <| x (r_rem (a := (s0 : Int)) (b := 5) rfl rfl (by omega) (by omega)) <| x (r_conv (k' := .i64) rfl ⟨by omega, by omega⟩) <| x (r_add rfl rfl ⟨by omega, by omega⟩) <| x (r_fieldB rfl) <|
    xl rfl <| o_store (u := .int .i64 S) hB7 rfl (congrArg (Value.int .i64) hSe) (by simp) rfl fun w8 hs8 hB8 => xe ?_
  have hz8 := hs8.size
  have hs28 : Step [b5] w2 w8 := (hs27.any (L := [b5])).trans' hs8
  have hW8 : Step [] w w8 := (hs12.trans hs27).then1 hs8 (by omega)
  have hal8 : Ints [b5] w8.heap v al := (h.up (L' := [b5]) (fun b hb => .inr (by simp at hb; omega))).ext hW8
  have hc8 : IntsO 3 w2.heap.size w8 vcl al := own_step (own_ext hcl hs57) hs8 (fun b hb => by have := own_lt hcl b hb; simp; omega)
  have hB38 := (hB32.ext hs27).step hs8 (by simp; omega)
  have hB48 := (hB4.ext hs27).step hs8 (by simp; omega)
  have hl8 : b5 < w8.heap.size := by omega
  have n3 : b3 ∉ [b5] := by simp; omega
  have n4 : b4 ∉ [b5] := by simp; omega
  refine W_seq <| W_seq <| W_region (by rfl) ?_
  refine x r_assign <| xe ?_
  refine W_block <| W_loop (α := Nat × Value × Value × List Int × List Ed) [(6, 8), (22, 76)] (fun z => [(6, .int .i64 z.1)])
    (fun z w' => z.1 ≤ S ∧ CrI w8 b5 vcl S z.2.1 z.2.2.1 z.2.2.2.1 z.2.2.2.2 w' ∧ GrI al S z.1 0 z.2.2.2.1 z.2.2.2.2 ∧ ∀ x ∈ z.2.2.2.1, x < (z.1 : Int)) (fun z => S - z.1) (by rfl) (0, .slice none 0 0, .slice none 0 0, [], []) ⟨rfl, trivial⟩
    ⟨Nat.zero_le _, ⟨Step.refl _ _, hB8, own_nil _ _ _ _, own_nil _ _ _ _, Dj.nil' _⟩, ⟨by simp, by simp, by simp, by simp, by simp, by simp, by simp, by simp⟩, by simp⟩ ?_
  rintro ⟨i, v1, v2, M, E⟩ g9 w9 ⟨hi9, hI, hG, hM⟩
  simp only [] at hi9 hI hG hM
  have hmn := hG.mn
  have hen := hG.en
  refine W_seq <| W_seq <| W_region (by rfl) ?_
  refine x r_move <| x (r_fieldB rfl) <| x (r_loadB hI.B rfl rfl) <| x (r_lss rfl rfl) <| xe ?_
  refine W_ifn rfl (fun h25 => ?_) (fun h25 => ?_)
  · have hie : i = S := by omega
    refine W_exit ?_
    have hmA := IntsO.ints (L := []) hI.m (by omega) (by simp)
    have heA := EdsO.eds (L := []) hI.e (by omega) (by simp)
    have hc9 : IntsO 3 w2.heap.size w9 vcl al := own_step hc8 hI.st (fun b hb => by have := own_lt hcl b hb; simp; omega)
    have hA9 : AutA [] w9.heap vcl v1 v2 ⟨al, (S : Int), M, E⟩ := ⟨IntsO.ints hc9 (by show al.length ≤ _; omega) (by simp), hmA, heA⟩
    have hok : Okay ⟨al, (S : Int), M, E⟩ := ⟨hb, hi, by simp only []; omega, by simp only []; omega, hG.mb, hG.mi, hG.eb, hG.ei⟩
    have hcan := canR_ok hok
    have hW9 : Step [] w w9 := hW8.then1 hI.st (by omega)
    have hB49 := hB48.step hI.st n4
    have hz9 := hI.st.size
    refine W_seq <| W_region (by rfl) ?_
    refine x (r_loadsB hI.B rfl rfl) <| xl rfl <| xf <| (canonicalR_ok (a := ⟨al, (S : Int), M, E⟩) hA9 hok).mono ?_
    rintro vr w10 ⟨hs10, hF⟩
    obtain ⟨us, hva, husl, hus⟩ := AutF_shape hF
    refine xl rfl <| o_stores (us := us) (hB49.ext hs10) rfl hva husl rfl hus fun w11 hs11 hB11 => xe ?_
    have hzW := hW9.size
    refine W_ret ⟨[.agg us.toArray], ⟨⟨_, rfl, run_loadVar_ag husl (hB11.at (L := []) (by simp)).cells⟩, trivial⟩, (hW9.trans hs10).then1 hs11 (by omega), canR ⟨al, (S : Int), M, E⟩, ?_, hcan.1, ?_, hcan.2.1⟩
    · show AutF _ _ (.agg us.toArray) _
      rw [← hva]
      exact (AutF_st1 hF (by omega) hs11).mono hzW
    · have := hcan.2.2
      simp only [] at this
      omega
  have hlt : i < S := by omega
  refine W_skip ?_
  refine W_seq <| W_block <| W_cut (α := Value × List Int) [(28, 39)] (fun z => []) (fun z w' => CrI w8 b5 vcl S z.1 v2 z.2 E w' ∧ GrI al S i 0 z.2 E) (by rfl) ?_ ?_
  · have hdv : m1 / 2 ^ i < 256 := Nat.lt_of_le_of_lt (Nat.div_le_self _ _) l1
    refine W_seq <| W_region (by rfl) ?_
    refine x (r_fieldB rfl) <| x (r_loadB (hB38.step hI.st n3) rfl g1) <| x r_move <| x (r_shr (n := i) rfl rfl (by show i ≤ 8; omega)) <| x (r_and8 (a := m1 / 2 ^ i) (b := 1) (congrArg (Value.int .u8) (shr_nat m1 i)) rfl hdv (by decide)) <| x (r_eql rfl rfl) <| xe ?_
    refine W_ifn rfl (fun h33 => ?_) (fun h33 => ?_)
    · refine W_skip ?_
      exact ⟨(v1, M), trivial, hI, hG⟩
    refine W_region (by rfl) ?_
    refine x (r_fieldB rfl) <| x (r_loadB hI.B rfl rfl) <| x r_move <| xl rfl <| o_lits (us := [[.int .i64 i]]) rfl rfl (by decide) (by simp) ⟨rfl, rfl, trivial⟩ fun b37 w12 hs12' hb37 hB37 => ?_
    have hI12 := hI.ext hs12'
    refine xl rfl <| o_app (news := [.int .i64 i]) (L := []) hI12.m rfl rfl rfl (hB37.at (by simp)) (by simp [Value.oneCell']) (by omega) hI12.st.size fun v13 w13 ho13 hs13 hn13 => ?_
    have ho13' : IntsO 3 w8.heap.size w13 v13 (M ++ [(i : Int)]) := IntsO.snoc ho13
    refine x (r_fieldB rfl) <| xl rfl <| o_store (hI12.B.step hs13 (own_notin hI12.m hl8)) rfl rfl (by simp) (IntsO.ints (L := []) ho13' (by simp; omega) (by simp)).one fun w14 hs14 hB14 =>
      xe ?_
    exact ⟨(v13, M ++ [(i : Int)]), trivial, hI12.setM hl8 hs13 ho13' hn13 hs14 hB14, hG.mark hM hlt⟩
  rintro ⟨v3, M3⟩ g15 w15 ⟨hI15, hG15⟩
  simp only [] at hI15 hG15
  refine W_seq <| W_region (by rfl) ?_
  refine x r_assign <| xe ?_
  refine W_block <| W_loop (α := Nat × Value × List Ed) [(7, 8), (40, 76)] (fun z => [(7, .int .i64 z.1)])
    (fun z w' => z.1 ≤ al.length ∧ z.1 ≤ 5 ∧ CrI w8 b5 vcl S v3 z.2.1 M3 z.2.2 w' ∧ GrI al S i z.1 M3 z.2.2) (fun z => 5 - z.1) (by rfl) (0, v2, E) ⟨rfl, trivial⟩
    ⟨Nat.zero_le _, Nat.zero_le _, hI15, hG15⟩ ?_
  rintro ⟨k, vd, F⟩ g16 w16 ⟨hk, hk5, hI16, hG16⟩
  simp only [] at hk hk5 hI16 hG16
  have hal16 := hal8.st hI16.st
  have hfn := hG16.en
  refine W_seq <| W_cut (α := Unit) [(40, 47)] (fun z => [(47, .bool (decide (k < al.length ∧ k < 5)))]) (fun z w' => w' = w16) (by rfl) ?_ ?_
  · refine W_region (by rfl) ?_
    refine x r_move <| x r_move <| x (r_lenA hal16 rfl) <| xb (r_lss rfl rfl) (fun h43 => ?_) (fun h43 => ?_)
    · refine x r_move <| x r_move <| x (r_lss rfl rfl) <| x (r_pick rfl) <| xe ?_
      refine ⟨(), ⟨congrArg Value.bool ?_, trivial⟩, rfl⟩
      exact decide_eq_decide.2 ⟨fun e => ⟨by omega, by omega⟩, fun e => by omega⟩
    refine x r_move <| xs rfl <| xs rfl <| x (r_pick rfl) <| xe ?_
    exact ⟨(), ⟨congrArg Value.bool (decide_eq_false (fun e => h43 (by omega))).symm, trivial⟩, rfl⟩
  rintro _ g17 w17 rfl
  refine W_ifn rfl (fun h47 => ?_) (fun h47 => ?_)
  · refine W_exit ?_
    refine W_region (by rfl) ?_
    refine x r_move <| x (r_add rfl rfl ⟨by omega, by omega⟩) <| x r_assign <| xe ?_
    exact ⟨(i + 1, v3, vd, M3, F), by simp only []; omega, ⟨rfl, trivial⟩, hlt, hI16, hG16.next hk5, fun x hx => by have := hG16.ml x hx; simp only []; omega⟩
  have hk1 : k < al.length := h47.1
  have hk2 : k < 5 := h47.2
  have gj := bys_at (ns := ns) (j := 0 + 2 + i * 5 + k * 1) (by omega)
  have lj := getD_lt hns (0 + 2 + i * 5 + k * 1)
  refine exE (ns.getD (0 + 2 + i * 5 + k * 1) 0) fun q hq => ?_
  rw [hq] at gj lj
  have hB316 := hB38.step hI16.st n3
  have hmod : 0 ≤ (q : Int) % ((S : Int) + 2) := Int.emod_nonneg _ (by omega)
  have hmod2 : (q : Int) % ((S : Int) + 2) < (S : Int) + 2 := Int.emod_lt_of_pos _ (by omega)
  refine W_skip ?_
  refine W_seq <| W_block <| W_seq <| W_draw (Step [] w17) [(0, true), (1, true), (2, true), (3, true), (4, true), (5, true), (6, true), (7, true), (8, true), (9, true), (10, true), (11, true)] Tryz.mixed (by rfl) (by kernel_rfl) (Step.drew _ _) ?_
  refine p (fun _ => r_move) <| p (fun _ => r_move) <| p (fun _ => r_fieldB rfl) <| p (fun _ => r_indexR (i := i) rfl rfl (by omega)) <| p (fun _ => r_indexR (i := k) rfl rfl hk2) <| pq (fun _ hc => r_loadB (hB316.ext hc) rfl gj) <|
    p (fun _ => r_conv (k' := .i64) rfl ⟨by omega, by omega⟩) <| p (fun _ => r_fieldB rfl) <| pq (fun _ hc => r_loadB (hI16.B.ext hc) rfl rfl) <| p (fun _ => r_add rfl rfl ⟨by omega, by omega⟩) <|
    p (fun _ => r_rem (a := (q : Int)) (b := (S : Int) + 2) rfl rfl (by omega) (by omega)) <| p (fun _ => r_assign) <| pe ?_
  have hI17 := hI16.ext (Step.drew [] w17)
  refine exE ((q : Int) % ((S : Int) + 2)) fun t ht => ?_
  have ht0 : 0 ≤ t := by omega
  refine W_seq <| W_region (by rfl) ?_
  refine x r_move <| x (r_fieldB rfl) <| x (r_loadB hI17.B rfl rfl) <| x (r_lss rfl rfl) <| xe ?_
  refine W_ifn rfl (fun h64 => ?_) (fun h64 => ?_)
  · refine W_skip ?_
    refine W_region (by rfl) ?_
    refine x r_move <| x (r_add rfl rfl ⟨by omega, by omega⟩) <| x r_assign <| xe ?_
    exact ⟨(k + 1, vd, F), by simp only []; omega, ⟨rfl, trivial⟩, hk1, hk2, hI17, hG16.skip hk1⟩
  have hvd := own_ge hI17.e
  have haD : Ints (b5 :: ob vd) { w17 with drawn := w17.drawn + 1 }.heap v al := ((hal8.up (L' := b5 :: ob vd) (fun b hb => by
    rcases List.mem_cons.1 hb with rfl | hb
    · exact .inl (by simp)
    · exact .inr (hvd b hb).1)).step hI17.st (by simp))
  have nb5 := own_notin hI17.e hl8
  refine W_draw (Step (ob vd) { w17 with drawn := w17.drawn + 1 }) [(0, true), (1, true), (2, true), (3, true), (4, true), (5, true), (6, true), (7, true), (8, true), (9, false), (10, false), (11, true), (12, false)] Tryz.mixed (by rfl) (by kernel_rfl) (Step.drew _ _) ?_
  refine p (fun _ => r_fieldB rfl) <| pq (fun _ hc => r_loadB (hI17.B.step hc nb5) rfl rfl) <| p (fun _ => r_move) <| p (fun _ => r_move) <| p (fun _ => r_move) <|
    pic (i := k) rfl haD rfl rfl hk1 fun a70 h70 => pq (fun _ hc => r_loadA (h70.step hc (fun b hb => List.mem_cons_of_mem _ hb)) rfl) <| p (fun _ => r_move) <| p (fun _ => r_build ⟨rfl, rfl, rfl, trivial⟩) <|
    pk <| o_lits (us := [edCells ((i : Int), cget al k, (q : Int) % ((S : Int) + 2))]) rfl rfl (by decide) (by exact (by decide : 1 * 3 ≤ 1000000)) ⟨rfl, rfl, trivial⟩ fun b74 w18 hs18 hb74 hB74 => ?_
  have hs1718 := (Step.drew [] { w17 with drawn := w17.drawn + 1 }).trans hs18
  have hI18 := hI17.ext hs1718
  refine ⟨hs1718.any, ?_⟩
  refine pk <| o_app (news := edCells ((i : Int), cget al k, (q : Int) % ((S : Int) + 2))) (L := []) hI18.e rfl rfl rfl (hB74.at (by simp)) (fun y hy => by simp only [edCells, List.mem_cons, List.not_mem_nil, or_false] at hy; rcases hy with rfl | rfl | rfl <;> rfl) (by omega) hI18.st.size fun v19 w19 ho19 hs19 hn19 => ⟨(hs1718.any (L := ob vd)).trans' hs19, ?_⟩
  have ho19' : EdsO 85 w8.heap.size w19 v19 (F ++ [((i : Int), cget al k, (q : Int) % ((S : Int) + 2))]) := EdsO.snoc ho19
  refine p (fun _ => r_fieldB rfl) <| pkl (hl := by kernel_rfl) <| o_store (hI18.B.step hs19 (own_notin hI18.e hl8)) rfl rfl (by simp) (EdsO.eds (L := []) ho19' (by simp; omega) (by simp)).one fun w20 hs20 hB20 => pe ?_
  have hI20 := hI18.setE hl8 hs19 ho19' hn19 hs20 hB20
  refine W_region (by rfl) ?_
  refine x r_move <| x (r_add rfl rfl ⟨by omega, by omega⟩) <| x r_assign <| xe ?_
  exact ⟨(k + 1, v19, F ++ [((i : Int), cget al k, (q : Int) % ((S : Int) + 2))]), by simp only []; omega, ⟨rfl, trivial⟩, hk1, hk2, hI20, hG16.edge hk1 hi hlt hmod (by omega)⟩
end Go.Proofs.YtfhgnlkdcdlblaaGreatDoor

/- Contract: overseerlaw26's Make: a plant and a supervisor that fit. -/
namespace Go.Lg
section
variable {P : Program} {f : Fr} {w : World} {d : Option Nat} {ty : Nat} {ps : String} {af : Array Edge} {gd : Option (Nat × Bool)}
theorem r_loadsBO {t sz : Nat} [Ag P t sz] {x : Operand} {b o T : Nat} {cs us : List Value} (h : Blk w.heap b T cs) (hx : ev f x = .pointer (some ⟨b, o, none⟩)) (hl : us.length = sz) (hsub : ∀ j u, us[j]? = some u → cs[o + j]? = some u) :
    (execOp (ev f) ⟨d, .load t x, ty, ps, af, gd⟩).run P w = .ok (.value (.agg us.toArray)) w := by
  refine r_loads hx hl fun j u hu => ?_
  rw [cel_world, lit_add', h.cell]
  exact hsub j u hu
end
end Go.Lg
namespace Go.Proofs.YtfhgnlkdcdlblaaGreatDoor
open Go.Lg

theorem bys_sub {ns : List Nat} {o n : Nat} : ∀ j u, (bys ((ns.drop o).take n))[j]? = some u → (bys ns)[o + j]? = some u := by
  intro j u h
  simp only [bys, List.getElem?_map, List.getElem?_take, List.getElem?_drop] at h ⊢
  split at h
  · exact h
  · cases h
theorem bys_all {ns : List Nat} (h : ∀ n ∈ ns, n < 256) (o n : Nat) : ∀ m ∈ (ns.drop o).take n, m < 256 := fun m hm => h m (List.mem_of_mem_drop (List.mem_of_mem_take hm))
/-- The plant and the supervisor of a problem. -/
structure Pb (aP aS : Aut) : Prop where
  p : Okay aP
  s : Okay aS
  p5 : aP.st ≤ 5
  s5 : aS.st ≤ 5
  sub : ∀ x ∈ aS.al, x ∈ aP.al
theorem setK_bd (m k : Nat) : ∀ e ∈ setK m k, 0 ≤ e ∧ e < k := by
  intro e he
  simp only [setK, List.mem_map, List.mem_filter, List.mem_range'_1] at he
  obtain ⟨i, ⟨hi, _⟩, rfl⟩ := he
  omega
theorem mrg_inc (keep : Bool → Bool → Bool) : ∀ (n : Nat) (a b : List Int), a.length + b.length ≤ n → Inc a → Inc b → Inc (mrg keep a b) := by
  intro n
  induction n with
  | zero =>
    intro a b h _ _
    have ha : a = [] := List.eq_nil_of_length_eq_zero (by omega)
    have hb : b = [] := List.eq_nil_of_length_eq_zero (by omega)
    subst ha hb; rw [mrg_nil]; exact List.Pairwise.nil
  | succ n ih =>
    intro a b hn ia ib
    by_cases h : a = [] ∧ b = []
    · obtain ⟨rfl, rfl⟩ := h; rw [mrg_nil]; exact List.Pairwise.nil
    · have hlt := inA_tl h
      have itl : ∀ (c : Bool) (l : List Int), Inc l → Inc (tl c l) := fun c l hl => by
        cases c
        · exact hl
        · cases l with
          | nil => exact hl
          | cons y l => exact hl.tail
      have ih' := ih (tl (inA a b) a) (tl (inA b a) b) (by omega) (itl _ _ ia) (itl _ _ ib)
      rw [mrg_step keep h]
      cases keep (inA a b) (inA b a) with
      | false => simpa using ih'
      | true =>
        simp only [cond_true, List.singleton_append]
        refine List.pairwise_cons.2 ⟨fun x hx => ?_, ih'⟩
        have hm := (mem_mrg (itl _ _ ia) (itl _ _ ib) x).1 hx
        cases a with
        | nil =>
          cases b with
          | nil => exact absurd ⟨rfl, rfl⟩ h
          | cons y b =>
            simp only [inA, tl, cond_true, cond_false, List.tail_cons, List.not_mem_nil, false_or, Go.Proofs.YtfhgnlkdcdlblaaGreatDoor.hx, List.headD_cons] at hm ⊢
            exact ib.lt_of hm.1
        | cons u a =>
          cases b with
          | nil =>
            simp only [inA, tl, cond_true, cond_false, List.tail_cons, List.not_mem_nil, or_false, Go.Proofs.YtfhgnlkdcdlblaaGreatDoor.hx, List.headD_cons] at hm ⊢
            exact ia.lt_of hm.1
          | cons y b =>
            rcases Int.lt_trichotomy u y with h1 | h1 | h1
            · have e1 : decide (u ≤ y) = true := decide_eq_true (by omega)
              have e2 : decide (y ≤ u) = false := decide_eq_false (by omega)
              simp only [inA, tl, e1, e2, cond_true, cond_false, List.tail_cons, Go.Proofs.YtfhgnlkdcdlblaaGreatDoor.hx, List.headD_cons] at hm ⊢
              rcases hm.1 with h2 | h2
              · exact ia.lt_of h2
              · rcases List.mem_cons.1 h2 with h2 | h2
                · omega
                · have := ib.lt_of h2; omega
            · have e1 : decide (u ≤ y) = true := decide_eq_true (by omega)
              have e2 : decide (y ≤ u) = true := decide_eq_true (by omega)
              simp only [inA, tl, e1, e2, cond_true, List.tail_cons, Go.Proofs.YtfhgnlkdcdlblaaGreatDoor.hx, List.headD_cons] at hm ⊢
              rcases hm.1 with h2 | h2
              · have := ia.lt_of h2; omega
              · have := ib.lt_of h2; omega
            · have e1 : decide (u ≤ y) = false := decide_eq_false (by omega)
              have e2 : decide (y ≤ u) = true := decide_eq_true (by omega)
              simp only [inA, tl, e1, e2, cond_true, cond_false, List.tail_cons, Go.Proofs.YtfhgnlkdcdlblaaGreatDoor.hx, List.headD_cons] at hm ⊢
              rcases hm.1 with h2 | h2
              · rcases List.mem_cons.1 h2 with h2 | h2
                · omega
                · have := ia.lt_of h2; omega
              · exact ib.lt_of h2

set_option maxHeartbeats 2000000 in
theorem make26_ok {w : World} {ns : List Nat} (hn : ns.length = 57) (hns : ∀ n ∈ ns, n < 256) :
    Ret Tryz.prog 6 [.agg (bys ns).toArray] w fun r w' => Step [] w w' ∧ ∃ vp vs vu aP aS u, r = .tuple #[vp, vs, vu] ∧ AutF w.heap.size w'.heap vp aP ∧ AutF w.heap.size w'.heap vs aS ∧ Pb aP aS ∧
      IntsO 3 w.heap.size w' vu (setK u 5) := by
  refine Ret.of_W Tryz.func6 rfl Tryz.ntmps6 Tryz.results6 (by simp) ?_
  have g0 := bys_at (ns := ns) (j := 0) (by omega)
  have g1 := bys_at (ns := ns) (j := 28) (by omega)
  have g2 := bys_at (ns := ns) (j := 56) (by omega)
  have l0 := getD_lt hns 0
  have l1 := getD_lt hns 28
  have l2 := getD_lt hns 56
  refine exE (ns.getD 0 0) fun m0 hm0 => ?_
  refine exE (ns.getD 28 0) fun m1 hm1 => ?_
  refine exE (ns.getD 56 0) fun m2 hm2 => ?_
  rw [hm0] at g0 l0
  rw [hm1] at g1 l1
  rw [hm2] at g2 l2
  have q0 := setK_len m0 5
  have q1 := setK_len m1 5
  have q2 := setK_len m2 5
  have d0 : ((ns.drop 1).take 27).length = 27 := by simp; omega
  have d1 : ((ns.drop 29).take 27).length = 27 := by simp; omega
  refine W_seq <| W_region (by rfl) ?_
  refine xl rfl <| o_box (us := bys ns) rfl fun b1 w1 hs1 hb1 hB1 => xl rfl <| o_alloc (us := [.slice none 0 0, .int .i64 0, .slice none 0 0, .slice none 0 0]) rfl fun b2 w2 hs2 hb2 hB2 =>
    xl rfl <| o_alloc (us := [.slice none 0 0, .int .i64 0, .slice none 0 0, .slice none 0 0]) rfl fun b3 w3 hs3 hb3 hB3 => x r_assign <| xe ?_
  have hs13 := (hs1.trans hs2).trans hs3
  have hB13 := (hB1.ext hs2).ext hs3
  have hB23 := hB2.ext hs3
  have hz1 := hs1.size
  have hz2 := hs2.size
  have hz3 := hs3.size
  have hl1 := hB1.lt
  have hl2 := hB2.lt
  have hl3 := hB3.lt
  refine W_seq <| W_draw (Step [] w3) [(0, true), (1, true), (2, true), (4, true), (5, true), (6, true), (3, false), (7, false), (8, false)] Tryz.mixed (by rfl) (by kernel_rfl) (Step.drew _ _) ?_
  refine p (fun _ => r_fieldB rfl) <| p (fun _ => r_fieldB rfl) <| pq (fun _ hc => r_loadB (hB13.ext hc) rfl g0) <| p (fun _ => r_fieldB rfl) <|
    p (fun _ => r_fieldB rfl) <| pq (fun _ hc => r_loadsBO (us := bys ((ns.drop 1).take 27)) (hB13.ext hc) rfl (by simp [bys]; omega) bys_sub) <| pk <| xf <| (events3_ok m0 l0 _).mono ?_
  rintro v4 w4 ⟨hs4, ho4⟩
  have hs34 := (Step.drew [] w3).trans hs4
  have hz4 := hs34.size
  refine ⟨hs34, pk <| xf <| (make3_ok (IntsO.ints (L := []) ho4 (by omega) (by simp)) (fun e he => by have := setK_bd m0 5 e he; omega) (setK_inc m0 5) d0 (bys_all hns 1 27)).mono ?_⟩
  rintro vp w5 ⟨hs5, aP, hF5, hkP, hP5, haP⟩
  have hs35 := hs34.trans hs5
  have hz5 := hs5.size
  obtain ⟨pva, pvm, pve, rfl, hPA⟩ := hF5
  have hP0 := hPA [] (by simp)
  refine ⟨hs35, pkl (hl := by kernel_rfl) <| o_stores (us := [pva, .int .i64 aP.st, pvm, pve]) (hB23.ext hs35) rfl rfl rfl rfl ⟨hP0.al.one, rfl, hP0.mr.one, hP0.ed.one, trivial⟩ fun w6 hs6 hB26 => pe ?_⟩
  have hz6 := hs6.size
  have hF6 : AutF w4.heap.size w6.heap (.agg #[pva, .int .i64 aP.st, pvm, pve]) aP := AutF_st1 ⟨pva, pvm, pve, rfl, hPA⟩ (by omega) hs6
  have hB16 := (hB13.ext hs35).step hs6 (by simp; omega)
  have hB36 := (hB3.ext hs35).step hs6 (by simp; omega)
  have hW6 : Step [] w w6 := (hs13.trans hs35).then1 hs6 (by omega)
  have hPA6 : ∀ L : List Nat, (∀ b ∈ L, b < w4.heap.size) → AutA L w6.heap pva pvm pve aP := fun L hL => by
    obtain ⟨x1, x2, x3, e, h⟩ := hF6
    have e' := e
    simp only [Value.agg.injEq, Array.mk.injEq, List.cons.injEq, and_true, true_and] at e'
    obtain ⟨rfl, rfl, rfl⟩ := e'
    exact h L hL
  have hPA60 := hPA6 [] (by simp)
  refine W_seq <| W_draw (Step [] w6) [(0, true), (1, true), (2, true), (4, true), (5, true), (7, true), (8, true), (9, true), (3, false), (6, false), (10, false), (11, false)] Tryz.mixed (by rfl) (by kernel_rfl) (Step.drew _ _) ?_
  refine p (fun _ => r_fieldB rfl) <| p (fun _ => r_fieldB rfl) <| pq (fun _ hc => r_loadB (hB16.ext hc) rfl g1) <| p (fun _ => r_fieldB rfl) <|
    pq (fun _ hc => r_loadB (hB26.ext hc) rfl rfl) <| p (fun _ => r_fieldB rfl) <| p (fun _ => r_fieldB rfl) <| pq (fun _ hc => r_loadsBO (us := bys ((ns.drop 29).take 27)) (hB16.ext hc) rfl (by simp [bys]; omega) bys_sub) <|
    pk <| xf <| (events3_ok m1 l1 _).mono ?_
  rintro v7 w7 ⟨hs7, ho7⟩
  have hs67 := (Step.drew [] w6).trans hs7
  have halP := hkP.al_le
  refine ⟨hs67, pk <| xf <| (Intersect_ok (IntsO.ints (L := []) ho7 (by omega) (by simp)) (hPA60.al.ext hs67) (by omega)).mono ?_⟩
  rintro v8 w8 ⟨hs8, ho8⟩
  have hs68 := hs67.trans hs8
  have qm := mrg_len (· && ·) (setK m1 5) aP.al
  have hmi := mrg_inc (· && ·) _ (setK m1 5) aP.al (Nat.le_refl _) (setK_inc m1 5) hkP.ali
  have hmm := fun x => mem_mrg (keep := (· && ·)) (setK_inc m1 5) hkP.ali x
  refine ⟨hs68, pk <| xf <| (make3_ok (IntsO.ints (L := []) ho8 (by omega) (by simp)) (fun e he => by
    have h1 := (hmm e).1 he
    have h2 : e ∈ aP.al := by have := h1.2; simp at this; exact this.2
    exact hkP.al e h2) hmi d1 (bys_all hns 29 27)).mono ?_⟩
  rintro vs w9 ⟨hs9, aS, hF9, hkS, hS5, haS⟩
  have hs69 := hs68.trans hs9
  have hz68 := hs68.size
  have hz9 := hs9.size
  obtain ⟨sva, svm, sve, rfl, hSA⟩ := hF9
  have hS0 := hSA [] (by simp)
  refine ⟨hs69, pkl (hl := by kernel_rfl) <| o_stores (us := [sva, .int .i64 aS.st, svm, sve]) (hB36.ext hs69) rfl rfl rfl rfl ⟨hS0.al.one, rfl, hS0.mr.one, hS0.ed.one, trivial⟩ fun w10 hs10 hB310 => pe ?_⟩
  have hz10 := hs10.size
  have hF10 : AutF w8.heap.size w10.heap (.agg #[sva, .int .i64 aS.st, svm, sve]) aS := AutF_st1 ⟨sva, svm, sve, rfl, hSA⟩ (by omega) hs10
  have hFP10 : AutF w4.heap.size w10.heap (.agg #[pva, .int .i64 aP.st, pvm, pve]) aP := AutF_st1 (hF6.ext hs69) (by omega) hs10
  have hB110 := (hB16.ext hs69).step hs10 (by simp; omega)
  have hB210 := (hB26.ext hs69).step hs10 (by simp; omega)
  have hW10 : Step [] w w10 := (hW6.trans hs69).then1 hs10 (by omega)
  refine W_seq <| W_draw (fun w' => Step [b2, b3] w10 w' ∧ Blk w'.heap b2 35 [pva, .int .i64 aP.st, pvm, pve] ∧ Blk w'.heap b3 35 [sva, .int .i64 aS.st, svm, sve]) [(0, true), (1, true), (2, true), (3, true), (4, false), (5, false), (6, false), (7, true)] Tryz.mixed (by rfl) (by kernel_rfl)
    ⟨Step.drew _ _, hB210.ext (Step.drew _ _), hB310.ext (Step.drew _ _)⟩ ?_
  refine pq (fun _ hc => r_loadsB hc.2.1 rfl rfl) <| pq (fun _ hc => r_loadsB hc.2.2 rfl rfl) <| p (fun _ => r_fieldB rfl) <|
    pq (fun _ hc => r_loadB (hB110.step hc.1 (by simp; omega)) rfl g2) <| pk <| xf <| (events3_ok m2 l2 _).mono ?_
  rintro vu w11 ⟨hs11, ho11⟩
  have hs1011 := (Step.drew [] w10).trans hs11
  have hB211 := hB210.ext hs1011
  have hB311 := hB310.ext hs1011
  have hz11 := hs1011.size
  refine ⟨⟨hs1011.any, hB211, hB311⟩, pk <| o_stores (us := [pva, .int .i64 aP.st, pvm, pve]) hB211 rfl rfl rfl rfl ⟨hP0.al.one, rfl, hP0.mr.one, hP0.ed.one, trivial⟩ fun w12 hs12 hB212 => ?_⟩
  have hB312 := hB311.step hs12 (by simp; omega)
  refine ⟨⟨(hs1011.any (L := [b2, b3])).trans' (hs12.mono (by simp)), hB212, hB312⟩, pk <| o_stores (us := [sva, .int .i64 aS.st, svm, sve]) hB312 rfl rfl rfl rfl ⟨hS0.al.one, rfl, hS0.mr.one, hS0.ed.one, trivial⟩ fun w13 hs13' hB313 => ?_⟩
  have hB213 := hB212.step hs13' (by simp; omega)
  refine ⟨⟨((hs1011.any (L := [b2, b3])).trans' (hs12.mono (by simp))).trans' (hs13'.mono (by simp)), hB213, hB313⟩, p (fun _ => r_assign) <| pe ?_⟩
  have hWF : Step [] w w13 := ((hW10.trans hs1011).then1 hs12 (by omega)).then1 hs13' (by omega)
  have ho13 : IntsO 3 w10.heap.size w13 vu (setK m2 5) := own_step (own_step ho11 hs12 (fun b hb => by have h' : w10.heap.size ≤ b := (own_ge ho11 b hb).1; simp; omega)) hs13' (fun b hb => by have h' : w10.heap.size ≤ b := (own_ge ho11 b hb).1; simp; omega)
  have hFP13 := AutF_st1 (AutF_st1 (hFP10.ext hs1011) (by omega) hs12) (by omega : b3 < w4.heap.size) hs13'
  have hFS13 := AutF_st1 (AutF_st1 (hF10.ext hs1011) (by omega) hs12) (by omega : b3 < w8.heap.size) hs13'
  refine W_ret ⟨[.agg #[pva, .int .i64 aP.st, pvm, pve], .agg #[sva, .int .i64 aS.st, svm, sve], vu], ⟨⟨_, rfl, run_loadVar_ag rfl (hB213.at (L := []) (by simp)).cells⟩, ⟨_, rfl, run_loadVar_ag rfl (hB313.at (L := []) (by simp)).cells⟩, rfl, trivial⟩, hWF,
    _, _, vu, aP, aS, m2, rfl, hFP13.mono (by omega), hFS13.mono (by omega), ⟨hkP, hkS, hP5, hS5, fun x hx => ?_⟩, own_base ho13 (by omega)⟩
  rw [haS] at hx
  have h1 := (hmm x).1 hx
  have := h1.2
  simp at this
  exact this.2
end Go.Proofs.YtfhgnlkdcdlblaaGreatDoor
/- The function SupervisorConsistent returns true (printed by gen_cy.py). -/
namespace Go.Lg
section
variable {P : Program} {f : Fr} {w : World} {d : Option Nat} {ty : Nat} {ps : String} {af : Array Edge} {gd : Option (Nat × Bool)} {all : List Oper} {C : World → Prop} {K : Fr → World → Prop}
theorem tf {pre : List (Nat × Bool)} {i j : Nat} {t1 t2 : Pt} (h : XP P all C (fun f w => (gdF all f (opAt all i) = true ∧ XO P (opAt all i) f w fun f' w' => C w' ∧ XT P all C K t1 f' w') ∧
      (gdF all f (opAt all j) = true ∧ XO P (opAt all j) f w fun f' w' => C w' ∧ XT P all C K t2 f' w')) pre f w) : XT P all C K (.fk pre i j t1 t2) f w := h
theorem tp {l : List (Nat × Bool)} (h : XP P all C K l f w) : XT P all C K (.pl l) f w := h
theorem r_eqT {t t' : Nat} [h : Bk P t] {x y : Operand} {a : Bool} (hx : ev f x = .bool a) (hy : ev f y = .bool a) :
    (execOp (ev f) ⟨d, .binOp .eql t x y t', ty, ps, af, gd⟩).run P w = .ok (.value (.bool true)) w := by
  rw [r_eql_bool hx hy, beq_self_eq_true]
end
end Go.Lg
namespace Go.Proofs.YtfhgnlkdcdlblaaGreatDoor
open Go.Lg

end Go.Proofs.YtfhgnlkdcdlblaaGreatDoor
