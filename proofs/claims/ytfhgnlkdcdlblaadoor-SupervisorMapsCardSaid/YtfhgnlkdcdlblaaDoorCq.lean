/- Contract: supervisor's merger: close. -/
import Derived.Test.YtfhgnlkdcdlblaaDoorCp
namespace Go.Proofs.YtfhgnlkdcdlblaaDoor
open Go.Lg

/-- What the loops hold. -/
structure ClS (N : Nat) (vc : Value) (n U : Nat) (w0 : World) (z : List Int × Bool) (w : World) : Prop where
  st : Step (ob vc) w0 w
  c : IntsO 3 N w vc z.1
  len : z.1.length = n
  le : uneq z.1 ≤ U
  lt : z.2 = true → uneq z.1 < U
theorem ClS.ext {N : Nat} {vc : Value} {n U : Nat} {w0 w w' : World} {z : List Int × Bool} (h : ClS N vc n U w0 z w) (hs : Step [] w w') : ClS N vc n U w0 z w' := ⟨h.st.trans hs, own_ext h.c hs, h.len, h.le, h.lt⟩
theorem clE_eq {s : Aut} {x y : Nat} {z : List Int × Bool} {v : Int} {u t : Nat} (hu : to0 s x v = u) (ht : to0 s y v = t) : clE s x y z v = if cget z.1 u ≠ cget z.1 t then (mergeC z.1 u t, true) else z := by
  unfold clE; rw [hu, ht, Int.toNat_natCast, Int.toNat_natCast]

set_option maxHeartbeats 4000000 in
theorem mclose_ok {N bm bs : Nat} {s : Aut} {vl : Value} {cs : List CV} {vc : Value} {cl : List Int} {w : World} (h : Mg N bm bs s vl cs vc cl w) (hl : cs.length = cl.length) (hn : cl.length ≤ 4096) (hsh : Sht cs)
    (hso : s.ed.Pairwise fun x y => x.1 < y.1 ∨ (x.1 = y.1 ∧ x.2.1 < y.2.1)) (hsb : StB s cl.length) :
    Ret Tryd.prog 71 [.pointer (some ⟨bm, 0, none⟩)] w fun _ w' => Step (ob vc) w w' ∧ IntsO 3 N w' vc (closeC s (cs.map (·.c)) (cl.length * cl.length + 1) cl) := by
  refine Ret.of_W Tryd.func71 rfl Tryd.ntmps71 Tryd.results71 (by simp) ?_
  obtain ⟨l, hlE⟩ : ∃ l, cs.map (·.c) = l := ⟨_, rfl⟩
  obtain ⟨n, hnE⟩ : ∃ n, cl.length = n := ⟨_, rfl⟩
  rw [hlE, hnE]
  rw [hnE] at hn hl hsb
  obtain ⟨T, hT⟩ : ∃ T, closeC s l (n * n + 1) cl = T := ⟨_, rfl⟩
  rw [hT]
  have hU0 := uneq_le cl
  rw [hnE] at hU0
  refine W_seq <| W_region (by rfl) ?_
  refine x r_assign <| xe ?_
  refine W_block <| W_loop (α := List Int × Bool × Nat) [(2, 4), (6, 112)] (fun z => [(2, .bool z.2.1)])
    (fun z w' => Step (ob vc) w w' ∧ IntsO 3 N w' vc z.1 ∧ z.1.length = n ∧ (z.2.1 = true → closeC s l z.2.2 z.1 = T ∧ uneq z.1 < z.2.2) ∧ (z.2.1 = false → z.1 = T))
    (fun z => bif z.2.1 then uneq z.1 + 1 else 0) (by rfl) (cl, true, n * n + 1) ⟨rfl, trivial⟩ ⟨Step.refl _ _, h.c, hnE, fun _ => ⟨hT, by simp only []; omega⟩, fun e => by cases e⟩ ?_
  rintro ⟨c1, more, fu⟩ g1 w1 ⟨hs1, ho1, hl1, hm1, hm0⟩
  simp only [] at ho1 hl1 hm1 hm0
  have hM1 := h.st hs1 ho1
  refine W_seq <| W_seq <| W_region (by rfl) ?_
  refine x r_move <| xe ?_
  refine W_cond rfl (fun h9 => ?_) (fun h9 => ?_)
  rotate_left
  · refine W_exit ?_
    have e := hm0 h9
    rw [e] at ho1
    exact ⟨[], trivial, hs1, ho1⟩
  obtain ⟨hT1, hU1⟩ := hm1 h9
  obtain ⟨f', hf'⟩ : ∃ f', fu = f' + 1 := ⟨fu - 1, by omega⟩
  obtain ⟨U, hU⟩ : ∃ U, uneq c1 = U := ⟨_, rfl⟩
  obtain ⟨Pz, hP⟩ : ∃ Pz, pass s l c1 = Pz := ⟨_, rfl⟩
  rw [hf', closeC, hP] at hT1
  unfold pass at hP
  rw [hl1] at hP
  refine W_skip ?_
  refine W_block <| W_seq <| W_region (by rfl) ?_
  refine x r_assign <| xe ?_
  refine W_seq <| W_region (by rfl) ?_
  have hI1 := IntsO.ints (L := []) ho1 (by omega) (by simp)
  have hI1n : Arr [] w1.heap vc n 1 (c1.map (.int .i64)) := by rw [← hl1]; exact hI1
  refine x r_move <| x (r_nilCheck rfl) <| x (r_fieldB rfl) <| x (r_loadB hM1.B rfl rfl) <| x (r_lenA hI1n rfl) <| x r_move <| xe ?_
  -- x
  refine W_block <| W_loop (α := (List Int × Bool) × Nat) [(2, 4), (6, 8), (15, 112)] (fun z => [(2, .bool z.1.2), (15, .int .i64 z.2)])
    (fun z w' => ClS N vc n U w1 z.1 w' ∧ z.2 ≤ n ∧ (List.range' z.2 (n - z.2)).foldl (clX s l n) z.1 = Pz) (fun z => n - z.2) (by rfl) ((c1, false), 0) ⟨rfl, rfl, trivial⟩
    ⟨⟨Step.refl _ _, ho1, hl1, by simp only []; omega, fun e => by cases e⟩, Nat.zero_le _, hP⟩ ?_
  rintro ⟨z2, i⟩ g2 w2 ⟨hC2, hi, hr2⟩
  simp only [] at hC2 hi hr2
  refine W_seq <| W_region (by rfl) ?_
  refine x (r_lss rfl rfl) <| xe ?_
  refine W_seq <| W_ifn rfl (fun h16 => ?_) (fun h16 => ?_)
  · refine W_exit ?_
    rw [rng_nil (by omega)] at hr2
    have hr2' : z2 = Pz := hr2
    subst hr2'
    refine ⟨(z2.1, z2.2, f'), ?_, ⟨rfl, trivial⟩, hs1.trans' hC2.st, hC2.c, hC2.len, fun e => ?_, fun e => ?_⟩
    · show (bif z2.2 then uneq z2.1 + 1 else 0) < (bif more then uneq c1 + 1 else 0)
      rw [show more = true from h9, cond_true]
      cases hz : z2.2
      · rw [cond_false]; omega
      · rw [cond_true]; have := hC2.lt hz; omega
    · simp only [] at e ⊢
      rw [if_pos e] at hT1
      exact ⟨hT1, by have := hC2.lt e; omega⟩
    · simp only [] at e ⊢
      rw [if_neg (by rw [e]; simp)] at hT1
      exact hT1
  have hlt : i < n := by omega
  rw [rng_cons hlt, List.foldl_cons] at hr2
  obtain ⟨Z1, hZ1⟩ : ∃ Z, clX s l n z2 i = Z := ⟨_, rfl⟩
  rw [hZ1] at hr2
  unfold clX at hZ1
  refine W_skip ?_
  refine W_seq <| W_block <| W_seq <| W_region (by rfl) ?_
  refine x r_move <| x r_assign <| xe ?_
  refine W_seq <| W_region (by rfl) ?_
  refine x r_move <| x (r_add rfl rfl ⟨by omega, by omega⟩) <| x r_assign <| xe ?_
  -- y
  refine W_block <| W_loop (α := (List Int × Bool) × Nat) [(2, 2), (4, 4), (6, 8), (20, 111)] (fun z => [(2, .bool z.1.2), (4, .int .i64 z.2)])
    (fun z w' => ClS N vc n U w1 z.1 w' ∧ z.2 ≤ n ∧ (List.range' z.2 (n - z.2)).foldl (clY s l i) z.1 = Z1) (fun z => n - z.2) (by rfl) (z2, i + 1) ⟨rfl, rfl, trivial⟩ ⟨hC2, hlt, hZ1⟩ ?_
  rintro ⟨z3, j⟩ g3 w3 ⟨hC3, hj, hr3⟩
  simp only [] at hC3 hj hr3
  have hM3 := hM1.st hC3.st hC3.c
  have hl3 := hC3.len
  have hI3 := IntsO.ints (L := []) hC3.c (by omega) (by simp)
  have hI3n : Arr [] w3.heap vc n 1 (z3.1.map (.int .i64)) := by rw [← hl3]; exact hI3
  refine W_seq <| W_seq <| W_region (by rfl) ?_
  refine x r_move <| x r_move <| x (r_nilCheck rfl) <| x (r_fieldB rfl) <| x (r_loadB hM3.B rfl rfl) <| x (r_lenA hI3n rfl) <| x (r_lss rfl rfl) <| xe ?_
  refine W_ifn rfl (fun h26 => ?_) (fun h26 => ?_)
  · refine W_exit ?_
    refine W_region (by rfl) ?_
    refine x (r_add rfl rfl ⟨by omega, by omega⟩) <| x r_move <| xe ?_
    rw [rng_nil (by omega)] at hr3
    have hr3' : z3 = Z1 := hr3
    refine ⟨(z3, i + 1), by simp only []; omega, ⟨rfl, rfl, trivial⟩, hC3, hlt, ?_⟩
    simp only []
    rw [hr3']; exact hr2
  have hltj : j < n := by omega
  rw [rng_cons hltj, List.foldl_cons] at hr3
  obtain ⟨Z2, hZ2⟩ : ∃ Z, clY s l i z3 j = Z := ⟨_, rfl⟩
  rw [hZ2] at hr3
  unfold clY at hZ2
  have hi3 : i < z3.1.length := by omega
  have hj3 : j < z3.1.length := by omega
  have hci : i < cs.length := by omega
  have hcj : j < cs.length := by omega
  refine W_skip ?_
  refine W_seq <| W_block <| W_seq <| W_cut (α := Unit) [(29, 53)] (fun z => [(53, .bool (decide (cget z3.1 i < 0 ∨ cget z3.1 i ≠ cget z3.1 j)))]) (fun z w' => Step [] w3 w') (by rfl) ?_ ?_
  · refine W_draw (Step [] w3) [(0, true), (1, true), (2, true), (3, true), (4, true), (5, true), (6, true), (7, true), (8, true), (9, true), (10, true), (11, true), (12, true), (13, true), (14, true), (15, true), (16, true), (17, true), (18, true), (19, true), (20, true), (21, true), (22, true), (23, true), (24, true)] Tryd.mixed (by rfl) (by kernel_rfl) (Step.drew _ _) ?_
    refine p (fun _ => r_move) <| p (fun _ => r_nilCheck rfl) <| p (fun _ => r_fieldB rfl) <| pq (fun _ hc => r_loadB (hM3.B.ext hc) rfl rfl) <| p (fun _ => r_move) <| pic (i := i) rfl hI3 rfl rfl hi3 fun a34 h34 =>
      pq (fun _ hc => r_loadA (h34.ext hc) rfl) <| pb (fun _ => r_lss rfl rfl) (fun h36 => ?_) (fun h36 => ?_)
    · refine p (fun _ => r_move) <| ps <| ps <| ps <| ps <| ps <| ps <| ps <| ps <| ps <| ps <| ps <| ps <| ps <| ps <| ps <| p (fun _ => r_pick rfl) <| pe ?_
      exact ⟨(), ⟨congrArg Value.bool (decide_eq_true (.inl h36)).symm, trivial⟩, Step.drew _ _⟩
    refine p (fun _ => r_move) <| p (fun _ => r_move) <| p (fun _ => r_nilCheck rfl) <| p (fun _ => r_fieldB rfl) <| pq (fun _ hc => r_loadB (hM3.B.ext hc) rfl rfl) <| p (fun _ => r_move) <|
      pic (i := i) rfl hI3 rfl rfl hi3 fun a43 h43 => pq (fun _ hc => r_loadA (h43.ext hc) rfl) <| p (fun _ => r_move) <| p (fun _ => r_nilCheck rfl) <|
      p (fun _ => r_fieldB rfl) <| pq (fun _ hc => r_loadB (hM3.B.ext hc) rfl rfl) <| p (fun _ => r_move) <| pic (i := j) rfl hI3 rfl rfl hj3 fun a50 h50 => pq (fun _ hc => r_loadA (h50.ext hc) rfl) <|
      p (fun _ => r_neq rfl rfl) <| p (fun _ => r_pick rfl) <| pe ?_
    refine ⟨(), ⟨congrArg Value.bool ?_, trivial⟩, Step.drew _ _⟩
    exact decide_eq_decide.2 ⟨fun e => .inr e, fun e => e.resolve_left h36⟩
  rintro _ g4 w4 hs4
  have hC4 := hC3.ext hs4
  refine W_if rfl (fun h53 => ?_) (fun h53 => ?_)
  · rw [if_pos h53] at hZ2
    refine W_exit ?_
    refine W_region (by rfl) ?_
    refine x r_move <| x (r_add rfl rfl ⟨by omega, by omega⟩) <| x r_assign <| xe ?_
    refine ⟨(z3, j + 1), by simp only []; omega, ⟨rfl, rfl, trivial⟩, hC4, hltj, ?_⟩
    simp only []
    rw [hZ2]; exact hr3
  rw [if_neg h53] at hZ2
  have hM4 := hM3.ext hs4
  have hli := hsh _ (List.getElem_mem hci)
  have hlj := hsh _ (List.getElem_mem hcj)
  have hai := hM4.l.each _ (List.getElem_mem hci)
  have haj := hM4.l.each _ (List.getElem_mem hcj)
  rw [← hlE, lget_cv rfl hci, lget_cv rfl hcj] at hZ2
  obtain ⟨ci, hcie⟩ : ∃ c, cs[i]'hci = c := ⟨_, rfl⟩
  obtain ⟨cj, hcje⟩ : ∃ c, cs[j]'hcj = c := ⟨_, rfl⟩
  rw [hcie] at hli hai hZ2
  rw [hcje] at hlj haj hZ2
  obtain ⟨E, hE⟩ : ∃ E, meets ci.c.en cj.c.en = E := ⟨_, rfl⟩
  rw [hE] at hZ2
  unfold meets at hE
  have hEl := mrg_len (· && ·) ci.c.en cj.c.en
  rw [hE] at hEl
  refine W_skip ?_
  refine W_seq <| W_draw (Step [] w4) [(0, true), (1, true), (2, true), (3, true), (4, true), (5, true), (6, true), (7, true), (8, true), (9, true), (10, true), (11, true), (12, true), (13, true), (14, true), (15, true), (18, true), (16, false), (17, true)] Tryd.mixed (by rfl) (by kernel_rfl) (Step.drew _ _) ?_
  refine p (fun _ => r_move) <| p (fun _ => r_nilCheck rfl) <| p (fun _ => r_fieldB rfl) <| pq (fun _ hc => r_loadB (hM4.B.ext hc) rfl rfl) <| p (fun _ => r_move) <| pig (g := cvCells) (i := i) rfl cv_len hM4.l.arr rfl rfl hci fun a59 h59 => ?_
  rw [hcie] at h59
  refine p (fun _ => r_field rfl) <| pq (fun _ hc => r_loadA ((h59.fld 0 _ rfl).ext hc) rfl) <| p (fun _ => r_move) <| p (fun _ => r_nilCheck rfl) <| p (fun _ => r_fieldB rfl) <|
    pq (fun _ hc => r_loadB (hM4.B.ext hc) rfl rfl) <| p (fun _ => r_move) <| pig (g := cvCells) (i := j) rfl cv_len hM4.l.arr rfl rfl hcj fun a67 h67 => ?_
  rw [hcje] at h67
  refine p (fun _ => r_field rfl) <| pq (fun _ hc => r_loadA ((h67.fld 0 _ rfl).ext hc) rfl) <|
    p (fun _ => r_move) <| pk <| xf <| (Intersect_ok (hai.en.ext (Step.drew _ _)) (haj.en.ext (Step.drew _ _)) (by omega)).mono ?_
  rintro vE w5 ⟨hs5, hoE⟩
  rw [hE] at hoE
  have hs45 := (Step.drew [] w4).trans hs5
  refine ⟨hs45, ?_⟩
  have hcl := own_lt hC4.c
  have hEA := IntsO.ints (L := ob vc) hoE (by omega) (fun b hb => hcl b hb)
  refine p (fun _ => r_lenA hEA rfl) <| pe ?_
  have hC5 := hC4.ext hs45
  -- the events
  refine W_block <| W_loop (α := (List Int × Bool) × Nat) [(2, 2), (6, 8), (72, 111)] (fun z => [(2, .bool z.1.2), (72, .int .i64 z.2)])
    (fun z w' => ClS N vc n U w1 z.1 w' ∧ Step (ob vc) w5 w' ∧ z.2 ≤ E.length ∧ (E.drop z.2).foldl (clE s i j) z.1 = Z2) (fun z => E.length - z.2) (by rfl) (z3, 0) ⟨rfl, rfl, trivial⟩ ⟨hC5, Step.refl _ _, Nat.zero_le _, hZ2⟩ ?_
  rintro ⟨z6, k⟩ g6 w6 ⟨hC6, hs6, hk, hr6⟩
  simp only [] at hC6 hk hr6
  have hl6 := hC6.len
  refine W_seq <| W_region (by rfl) ?_
  refine x (r_lss rfl rfl) <| xe ?_
  refine W_seq <| W_ifn rfl (fun h73 => ?_) (fun h73 => ?_)
  · refine W_exit ?_
    rw [List.drop_of_length_le (by omega)] at hr6
    have hr6' : z6 = Z2 := hr6
    refine W_region (by rfl) ?_
    refine x r_move <| x (r_add rfl rfl ⟨by omega, by omega⟩) <| x r_assign <| xe ?_
    refine ⟨(z6, j + 1), by simp only []; omega, ⟨rfl, rfl, trivial⟩, hC6, hltj, ?_⟩
    simp only []
    rw [hr6']; exact hr3
  have hltk : k < E.length := by omega
  rw [List.drop_eq_getElem_cons hltk, List.foldl_cons, cget_eq hltk] at hr6
  obtain ⟨v, hv⟩ : ∃ v, cget E k = v := ⟨_, rfl⟩
  rw [hv] at hr6
  have hEA6 := hEA.st hs6
  have hM6 := hM1.st hC6.st hC6.c
  have hI6 := IntsO.ints (L := []) hC6.c (by omega) (by simp)
  have hui := to0_lt hsb (by omega) i v
  have huj := to0_lt hsb (by omega) j v
  obtain ⟨u, hu⟩ : ∃ u : Nat, to0 s i v = u := ⟨(to0 s i v).toNat, by omega⟩
  obtain ⟨t, ht⟩ : ∃ t : Nat, to0 s j v = t := ⟨(to0 s j v).toNat, by omega⟩
  rw [clE_eq hu ht] at hr6
  have hun : u < z6.1.length := by omega
  have htn : t < z6.1.length := by omega
  refine W_skip ?_
  refine W_seq <| W_block <| W_seq <| W_region (by rfl) ?_
  refine xic hEA6 rfl rfl hltk fun a74 h74 => ?_
  rw [hv] at h74
  refine x (r_loadA h74 rfl) <| x r_assign <| xe ?_
  refine W_seq <| W_draw (Step [] w6) [(0, true), (1, true), (2, true), (3, true), (4, true), (5, true), (6, true), (7, true), (8, true), (9, true), (10, true), (11, true), (12, true), (13, true), (14, true), (15, true), (16, true), (17, true)] Tryd.mixed (by rfl) (by kernel_rfl) (Step.drew _ _) ?_
  refine p (fun _ => r_move) <| p (fun _ => r_nilCheck rfl) <| p (fun _ => r_fieldB rfl) <| pq (fun _ hc => r_loadB (hM6.B.ext hc) rfl rfl) <| p (fun _ => r_move) <| p (fun _ => r_move) <|
    p (fun _ => r_build ⟨rfl, rfl, trivial⟩) <| pq (fun _ hc => r_lookT (hM6.m.ext hc) hso hu rfl rfl) <| p (fun _ => r_move) <| p (fun _ => r_nilCheck rfl) <| p (fun _ => r_fieldB rfl) <|
    pq (fun _ hc => r_loadB (hM6.B.ext hc) rfl rfl) <| p (fun _ => r_move) <| p (fun _ => r_move) <| p (fun _ => r_build ⟨rfl, rfl, trivial⟩) <| pq (fun _ hc => r_lookT (hM6.m.ext hc) hso ht rfl rfl) <|
    p (fun _ => r_assign) <| p (fun _ => r_assign) <| pe ?_
  have hd := Step.drew [] w6
  have hC7 := hC6.ext hd
  have hM7 := hM6.ext hd
  have hs7 := hs6.trans hd
  have hI7 := hI6.ext hd
  refine W_seq <| W_draw (Step [] { w6 with drawn := w6.drawn + 1 }) [(0, true), (1, true), (2, true), (3, true), (4, true), (5, true), (6, true), (7, true), (8, true), (9, true), (10, true), (11, true), (12, true), (13, true), (14, true)] Tryd.mixed (by rfl) (by kernel_rfl) (Step.drew _ _) ?_
  refine p (fun _ => r_move) <| p (fun _ => r_nilCheck rfl) <| p (fun _ => r_fieldB rfl) <| pq (fun _ hc => r_loadB (hM7.B.ext hc) rfl rfl) <| p (fun _ => r_move) <| pic (i := u) rfl hI7 rfl rfl hun fun a97 h97 =>
    pq (fun _ hc => r_loadA (h97.ext hc) rfl) <| p (fun _ => r_move) <| p (fun _ => r_nilCheck rfl) <| p (fun _ => r_fieldB rfl) <| pq (fun _ hc => r_loadB (hM7.B.ext hc) rfl rfl) <|
    p (fun _ => r_move) <| pic (i := t) rfl hI7 rfl rfl htn fun a104 h104 => pq (fun _ hc => r_loadA (h104.ext hc) rfl) <| p (fun _ => r_neq rfl rfl) <|
    pe ?_
  have hd7 := Step.drew [] { w6 with drawn := w6.drawn + 1 }
  have hC8 := hC7.ext hd7
  have hM8 := hM7.ext hd7
  have hs8 := hs7.trans hd7
  refine W_ifn rfl (fun h106 => ?_) (fun h106 => ?_)
  · rw [if_neg h106] at hr6
    refine W_skip ?_
    refine W_region (by rfl) ?_
    refine x (r_add rfl rfl ⟨by omega, by omega⟩) <| x r_move <| xe ?_
    exact ⟨(z6, k + 1), by simp only []; omega, ⟨rfl, rfl, trivial⟩, hC8, hs8, hltk, hr6⟩
  rw [if_pos h106] at hr6
  have hdec := uneq_merge_lt hun htn h106
  have hle6 := hC6.le
  refine W_seq <| W_region (by rfl) ?_
  refine x r_move <| x r_move <| x r_move <| xl rfl <| xf <| (mmerge_ok hM8 hun htn (by omega)).mono ?_
  rintro r9 w9 ⟨hs9, ho9⟩
  refine xe ?_
  refine W_region (by rfl) ?_
  refine x r_assign <| xe ?_
  refine W_region (by rfl) ?_
  refine x (r_add rfl rfl ⟨by omega, by omega⟩) <| x r_move <| xe ?_
  exact ⟨((mergeC z6.1 u t, true), k + 1), by simp only []; omega, ⟨rfl, rfl, trivial⟩, ⟨hC8.st.trans' hs9, ho9, by simp only [mergeC_len]; exact hl6, by simp only []; omega, fun _ => by simp only []; omega⟩, hs8.trans' hs9, hltk, hr6⟩
end Go.Proofs.YtfhgnlkdcdlblaaDoor
