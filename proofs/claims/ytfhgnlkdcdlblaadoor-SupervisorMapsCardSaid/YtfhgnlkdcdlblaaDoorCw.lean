/- Contract: overseerlaw30.known. -/
import Derived.Test.YtfhgnlkdcdlblaaDoorCv
namespace Go.Proofs.YtfhgnlkdcdlblaaDoor
open Go.Lg

theorem CtlF.three {N : Nat} {H : Array Obj} {v : Value} {c0 c1 c2 : Ctl} (h : CtlF N H v [c0, c1, c2]) : ∃ d0 d1 d2 : CV, d0.c = c0 ∧ d1.c = c1 ∧ d2.c = c2 ∧ Ctls [] H v [d0, d1, d2] := by
  obtain ⟨cs, h1, h2⟩ := h
  have := h2 [] (by simp)
  match cs, h1, this with
  | [d0, d1, d2], h1, h3 =>
    simp only [List.map_cons, List.map_nil, List.cons.injEq, and_true] at h1
    exact ⟨d0, d1, d2, h1.1, h1.2.1, h1.2.2, h3⟩

set_option maxHeartbeats 2000000 in
theorem known_ok (w : World) : Ret Tryd.prog 9 [] w fun r w' => r = .bool true ∧ Step [] w w' := by
  refine Ret.of_W Tryd.func9 rfl Tryd.ntmps9 Tryd.results9 (by simp) ?_
  refine W_seq <| W_region (by rfl) ?_
  refine x r_assign <| xe ?_
  refine W_seq <| W_region (by rfl) ?_
  refine xl rfl <| xf <| (example_ok true w).mono ?_
  rintro r1 w1 ⟨hs1, v1, v2, rfl, hF1, hF2⟩
  obtain ⟨pva, pvm, pve, rfl, hP⟩ : AutF w.heap.size w1.heap v1 exP := hF1
  obtain ⟨sa, sm, se, rfl, hS⟩ := hF2
  have hP1 := hP [] (by simp)
  have hS1 := hS [] (by simp)
  refine x r_move <| x (r_extract rfl rfl) <| x (r_extract rfl rfl) <| xl rfl <| o_alloc (us := [.slice none 0 0, .int .i64 0, .slice none 0 0, .slice none 0 0]) rfl fun b1 w2 hs2 hb1 hB1 =>
    xl rfl <| o_alloc (us := [.slice none 0 0, .int .i64 0, .slice none 0 0, .slice none 0 0]) rfl fun b2 w3 hs3 hb2 hB2 => xl rfl <| o_stores (us := [pva, .int .i64 exP.st, pvm, pve]) (hB1.ext hs3) rfl rfl rfl rfl ⟨hP1.al.one, rfl, hP1.mr.one, hP1.ed.one, trivial⟩ fun w4 hs4 hB1' => ?_
  have hl1 := hB1.lt
  have hB24 := hB2.step hs4 (by simp; omega)
  refine xl rfl <| o_stores (us := [sa, .int .i64 exS.st, sm, se]) hB24 rfl rfl rfl rfl ⟨hS1.al.one, rfl, hS1.mr.one, hS1.ed.one, trivial⟩ fun w5 hs5 hB25 =>
    xe ?_
  have hz1 := hs1.size
  have hz2 := hs2.size
  have hB15 := hB1'.step hs5 (by simp; omega)
  have hs15 : Step [] w1 w5 := ((hs2.trans hs3).then1 hs4 hb1).then1 hs5 (by omega)
  have hW5 := hs1.trans hs15
  have hP5 := hP1.ext hs15
  have hS5 := hS1.ext hs15
  refine W_seq <| W_region (by rfl) ?_
  refine x (r_loadsB hB15 rfl rfl) <| x (r_loadsB hB25 rfl rfl) <| xl rfl <| xf <| (Map_ok hP5 hS5 (fun _ _ => ⟨by decide, by decide⟩)).mono ?_
  rintro r6 w6 ⟨hs6, vl, hr6, _, hg6⟩
  rw [exPS_E] at hr6
  subst hr6
  have hg6' := (hg6 exPS_E).1
  rw [exPS_C] at hg6'
  obtain ⟨d0, d1, d2, hd0, hd1, hd2, hC6⟩ := CtlF.three hg6'
  refine x r_move <| x (r_extract rfl rfl) <|
    x (r_extract rfl rfl) <| x r_assign <| x r_assign <| xe ?_
  refine W_seq <| W_region (by rfl) ?_
  refine x (r_loadsB (hB15.ext hs6) rfl rfl) <| x (r_loadsB (hB25.ext hs6) rfl rfl) <| xl rfl <| xf <| (Classes_ok (hP5.ext hs6) (hS5.ext hs6) (fun _ _ => ⟨by decide, by decide⟩)).mono ?_
  rintro r7 w7 ⟨hs7, vk, hr7, _, hg7⟩
  rw [exPS_E] at hr7
  subst hr7
  have hk7 := hg7 exPS_E
  rw [exPS_K] at hk7
  refine x r_move <| x (r_extract rfl rfl) <|
    x (r_extract rfl rfl) <| x r_assign <| x r_assign <| xe ?_
  refine W_seq <| W_region (by rfl) ?_
  refine xl rfl <| xf <| (example_ok false w7).mono ?_
  rintro r8 w8 ⟨hs8, v3, v4, rfl, hF3, hF4⟩
  obtain ⟨lva, lvm, lve, rfl, hL⟩ : AutF w7.heap.size w8.heap v3 exL := hF3
  obtain ⟨ta, tm, te, rfl, hT⟩ := hF4
  have hL1 := hL [] (by simp)
  have hT1 := hT [] (by simp)
  refine x r_move <| x (r_extract rfl rfl) <| x (r_extract rfl rfl) <| xl rfl <| o_alloc (us := [.slice none 0 0, .int .i64 0, .slice none 0 0, .slice none 0 0]) rfl fun b7 w9 hs9 hb7 hB7 =>
    xl rfl <| o_alloc (us := [.slice none 0 0, .int .i64 0, .slice none 0 0, .slice none 0 0]) rfl fun b8 w10 hs10 hb8 hB8 => xl rfl <| o_stores (us := [lva, .int .i64 exL.st, lvm, lve]) (hB7.ext hs10) rfl rfl rfl rfl ⟨hL1.al.one, rfl, hL1.mr.one, hL1.ed.one, trivial⟩ fun w11 hs11 hB7' => ?_
  have hl7 := hB7.lt
  have hB811 := hB8.step hs11 (by simp; omega)
  refine xl rfl <| o_stores (us := [ta, .int .i64 exS.st, tm, te]) hB811 rfl rfl rfl rfl ⟨hT1.al.one, rfl, hT1.mr.one, hT1.ed.one, trivial⟩ fun w12 hs12 hB812 =>
    xe ?_
  have hz9 := hs9.size
  have hB712 := hB7'.step hs12 (by simp; omega)
  have hs812 : Step [] w8 w12 := ((hs9.trans hs10).then1 hs11 hb7).then1 hs12 (by omega)
  have hs512 : Step [] w5 w12 := ((hs6.trans hs7).trans hs8).trans hs812
  have hs712 : Step [] w7 w12 := hs8.trans hs812
  refine W_seq <| W_region (by rfl) ?_
  refine x (r_loadsB hB712 rfl rfl) <| x (r_loadsB (hB25.ext hs512) rfl rfl) <| xl rfl <| xf <| (Reduce_ok (hL1.ext hs812) (hS5.ext hs512) (fun _ _ => ⟨by decide, by decide⟩)).mono ?_
  rintro r13 w13 ⟨hs13, vr, hr13, _, hg13⟩
  rw [exLS_E] at hr13
  subst hr13
  have hR := hg13 exLS_E
  rw [exLS_A] at hR
  obtain ⟨ra, rm, re, rfl, hR'⟩ := hR
  have hR1 := hR' [] (by simp)
  refine x r_move <| x (r_extract rfl rfl) <|
    x (r_extract rfl rfl) <| xl rfl <| o_alloc (us := [.slice none 0 0, .int .i64 0, .slice none 0 0, .slice none 0 0]) rfl fun b9 w14 hs14 hb9 hB9 => xl rfl <| o_stores (us := [ra, .int .i64 1, rm, re]) hB9 rfl rfl rfl rfl ⟨hR1.al.one, rfl, hR1.mr.one, hR1.ed.one, trivial⟩ fun w15 hs15' hB9' => x r_assign <|
    xe ?_
  have hs1315 : Step [] w13 w15 := hs14.then1 hs15' hb9
  have hs715 := (hs712.trans hs13).trans hs1315
  have hs615 := hs7.trans hs715
  have hW15 := (hW5.trans hs6).trans hs615
  have hC15 := hC6.ext hs615
  have hk15 := IntsO.ints (L := []) (own_ext hk7 hs715) (by decide) (by simp)
  have e1 : ∀ {H : Array Obj}, Ctls [] H vl [d0, d1, d2] → Ints [] H d1.ve [0, 1] := fun h => by have := (h.each d1 (by simp)).en; rw [hd1] at this; exact this
  have e2 : ∀ {H : Array Obj}, Ctls [] H vl [d0, d1, d2] → Ints [] H d2.vd [0] := fun h => by have := (h.each d2 (by simp)).dis; rw [hd2] at this; exact this
  have hed := hR1.ed
  refine W_seq <| W_region (by rfl) ?_
  refine x r_move <| x (r_eql rfl rfl) <| x r_move <| x r_move <| x (r_lenA hC15.arr rfl) <| x (r_eql rfl rfl) <|
    x (r_pick rfl) <| x r_move <| x r_move <| xig (g := cvCells) (i := 1) cv_len hC15.arr rfl rfl (by simp) fun a46 h46 => x (r_field rfl) <| x (r_loadA (h46.fld 0 _ rfl) rfl) <|
    xl rfl <| o_lits (us := [[.int .i64 0], [.int .i64 1]]) rfl rfl (by decide) (by decide) ⟨rfl, rfl, rfl, rfl, trivial⟩ fun b49 w16 hs16 hb49 hB49 => ?_
  have hV49 : Ints [] w16.heap (.slice (some ⟨b49, 0, none⟩) 2 2) [0, 1] := hB49.arr (by simp) rfl (by simp) (by simp)
  refine xl rfl <| xf <| (wEqual_ok (e1 (hC15.ext hs16)) hV49).mono ?_
  rintro r17 w17 ⟨hr17, hs17⟩
  have hr17' : r17 = .bool true := hr17
  subst hr17'
  have hs1517 := hs16.trans hs17
  have hC17 := hC15.ext hs1517
  refine x (r_pick rfl) <|
    x r_move <| x r_move <| xig (g := cvCells) (i := 1) cv_len hC17.arr rfl rfl (by simp) fun a54 h54 => x (r_field rfl) <| x (r_loadA (h54.fld 0 _ rfl) rfl) <|
    x (r_lenA (e1 hC17) rfl) <| x (r_eql rfl rfl) <| x (r_pick rfl) <| x r_move <| x r_move <| xig (g := cvCells) (i := 2) cv_len hC17.arr rfl rfl (by simp) fun a62 h62 => x (r_field rfl) <|
    x (r_loadA (h62.fld 1 _ rfl) rfl) <| xl rfl <| o_lits (us := [[.int .i64 0]]) rfl rfl (by decide) (by decide) ⟨rfl, rfl, trivial⟩ fun b65 w18 hs18 hb65 hB65 => ?_
  have hV65 : Ints [] w18.heap (.slice (some ⟨b65, 0, none⟩) 1 1) [0] := hB65.arr (by simp) rfl (by simp) (by simp)
  refine xl rfl <| xf <| (wEqual_ok (e2 (hC17.ext hs18)) hV65).mono ?_
  rintro r19 w19 ⟨hr19, hs19⟩
  have hr19' : r19 = .bool true := hr19
  subst hr19'
  have hs1719 := hs18.trans hs19
  have hC19 := hC17.ext hs1719
  refine x (r_pick rfl) <| x r_move <| x r_move <| xig (g := cvCells) (i := 2) cv_len hC19.arr rfl rfl (by simp) fun a70 h70 =>
    x (r_field rfl) <| x (r_loadA (h70.fld 1 _ rfl) rfl) <| x (r_lenA (e2 hC19) rfl) <| x (r_eql rfl rfl) <| x (r_pick rfl) <| x r_move <| x r_move <| x (r_eql rfl rfl) <|
    x (r_pick rfl) <| x r_move <| x r_move <| xl rfl <| o_lits (us := [[.int .i64 0], [.int .i64 1], [.int .i64 2]]) rfl rfl (by decide) (by decide) ⟨rfl, rfl, rfl, rfl, rfl, rfl, trivial⟩ fun b82 w20 hs20 hb82 hB82 => ?_
  have hV82 : Ints [] w20.heap (.slice (some ⟨b82, 0, none⟩) 3 3) [0, 1, 2] := hB82.arr (by simp) rfl (by simp) (by simp)
  have hs1520 := (hs1517.trans hs1719).trans hs20
  refine xl rfl <| xf <| (wEqual_ok (hk15.ext hs1520) hV82).mono ?_
  rintro r21 w21 ⟨hr21, hs21⟩
  have hr21' : r21 = .bool true := hr21
  subst hr21'
  have hs1521 := hs1520.trans hs21
  have hB921 := hB9'.ext hs1521
  refine x (r_pick rfl) <| x r_move <| x r_move <| x (r_lenA hk15 rfl) <| x (r_eql rfl rfl) <| x (r_pick rfl) <| x r_move <| x r_move <| x (r_eql rfl rfl) <|
    x (r_pick rfl) <| x r_move <| x (r_fieldB rfl) <| x (r_loadB hB921 rfl rfl) <| x (r_eql rfl rfl) <| x (r_pick rfl) <| x r_move <| x (r_fieldB rfl) <| x (r_loadB hB921 rfl rfl) <| x (r_lenA hed rfl) <|
    x (r_eql rfl rfl) <| x (r_pick rfl) <| x r_assign <| xe ?_
  exact W_ret ⟨[.bool true], ⟨rfl, trivial⟩, rfl, hW15.trans hs1521⟩
end Go.Proofs.YtfhgnlkdcdlblaaDoor
