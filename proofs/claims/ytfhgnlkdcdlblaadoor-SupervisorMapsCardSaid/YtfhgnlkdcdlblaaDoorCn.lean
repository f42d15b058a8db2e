/- Contract: supervisor.controls. -/
import Derived.Test.YtfhgnlkdcdlblaaDoorCm
namespace Go.Proofs.YtfhgnlkdcdlblaaDoor
open Go.Lg

theorem Vt2 {a b : Aut} {t : List Int} (h : Vt [a, b] t) : ∃ x y : Nat, t = [(x : Int), (y : Int)] ∧ (x : Int) < a.st ∧ (y : Int) < b.st := by
  obtain ⟨h1, h2⟩ := h
  match t, h1, h2 with
  | [u, v], _, h2 =>
    have e0 := h2 0 (by simp) (by simp)
    have e1 := h2 1 (by simp) (by simp)
    simp only [List.getElem_cons_zero, List.getElem_cons_succ] at e0 e1
    exact ⟨u.toNat, v.toNat, by rw [Int.toNat_of_nonneg e0.1, Int.toNat_of_nonneg e1.1], by omega, by omega⟩
def cv0 : CV := ⟨.slice none 0 0, .slice none 0 0, ctl0⟩
theorem flat_set0 {cs : List CV} {i j : Nat} (h : i < cs.length) {y : CV} {u : Value} (hj : j < 4) (hy : cvCells y = (cvCells cs[i]).set j u) : (cs.flatMap cvCells).set (0 + i * 4 + j) u = (cs.set i y).flatMap cvCells := by
  rw [Nat.zero_add]; exact flat_set cvCells 4 cv_len cs i j h y u hj hy
theorem flat_get0 {cs : List CV} {i j : Nat} (h : i < cs.length) (hj : j < 4) : (cs.flatMap cvCells)[0 + i * 4 + j]? = (cvCells cs[i])[j]? := by
  rw [Nat.zero_add]; exact flat_get cvCells 4 cv_len cs i j h hj
theorem optC {α : Type} (o : Option α) : o = none ∨ ∃ t, o = some t := by cases o; exact .inl rfl; exact .inr ⟨_, rfl⟩
theorem uni1_len (l : List Int) (v : Int) : (uni1 l v).length ≤ l.length + 1 := by have := mrg_len (· || ·) l [v]; simpa [uni1] using this
theorem occ_get {cs : List CV} {l : List Ctl} {n i : Nat} (h : cs.map (·.c) = l) (hl : cs.length = n) (hi : i < n) : l.getD i ctl0 = (cs[i]'(by omega)).c := by
  subst h; subst hl; simp [List.getD, hi]

set_option maxHeartbeats 4000000 in
theorem controls_ok {L : List Nat} {w : World} {pva pvm pve sa sm se vt : Value} {aP aS : Aut} {qs : List TV} (hp : AutA L w.heap pva pvm pve aP) (hs : AutA L w.heap sa sm se aS) (hpo : Okay aP) (hso : Okay aS)
    (ht : Tups L w.heap vt qs) (hq : ∀ q ∈ qs, Vt [aP, aS] q.2) (hqn : qs.length ≤ 4096) :
    Ret Tryd.prog 46 [.agg #[pva, .int .i64 aP.st, pvm, pve], .agg #[sa, .int .i64 aS.st, sm, se], vt] w fun r w' => Step [] w w' ∧ ∃ vo b, r = .tuple #[vo, .slice (some ⟨b, 0, none⟩) aS.st.toNat aS.st.toNat] ∧
      CtlF w.heap.size w'.heap vo (ctls aP aS (qs.map (·.2))) ∧ (∀ c ∈ ctls aP aS (qs.map (·.2)), c.en.length ≤ 1000000 ∧ c.dis.length ≤ 1000000) ∧ w.heap.size ≤ b ∧ Blk w'.heap b 4 ((occs aS.st.toNat (qs.map (·.2))).map .bool) := by
  obtain ⟨n, hn⟩ : ∃ n : Nat, aS.st = n := ⟨aS.st.toNat, by have := hso.st0; omega⟩
  have hn4 : n ≤ 4096 := by have := hso.st1; omega
  have hnn : aS.st.toNat = n := by omega
  rw [hnn]
  have hal := hso.al_le
  refine Ret.of_W Tryd.func46 rfl Tryd.ntmps46 Tryd.results46 (by simp) ?_
  refine W_seq <| W_region (by rfl) ?_
  refine xl rfl <| o_box (us := [pva, .int .i64 aP.st, pvm, pve]) rfl fun b3 w1 hs1 hb3 hB3 => xl rfl <| o_box (us := [sa, .int .i64 aS.st, sm, se]) rfl fun b4 w2 hs2 hb4 hB4 => x r_assign <| x r_assign <| xe ?_
  have hs12 := hs1.trans hs2
  refine W_seq <| W_draw (Step [] w2) [(0, true), (2, true), (1, false), (3, false), (4, true), (5, true)] Tryd.mixed (by rfl) (by kernel_rfl) (Step.drew _ _) ?_
  refine pq (fun _ hc => r_loadsB ((hB3.ext hs2).ext hc) rfl rfl) <| pq (fun _ hc => r_loadsB (hB4.ext hc) rfl rfl) <| pk <| xf <| (steps_ok ((hp.ed.ext hs12).ext (Step.drew _ _))).mono ?_
  rintro r3 w3 ⟨hs3, b20, rfl, hb20, hm20⟩
  have hs23 := (Step.drew [] w2).trans hs3
  refine ⟨hs23, ?_⟩
  refine pk <| xf <| (steps_ok ((hs.ed.ext hs12).ext hs23)).mono ?_
  rintro r4 w4 ⟨hs4, b22, rfl, hb22, hm22⟩
  have hs24 := hs23.trans hs4
  refine ⟨hs24, ?_⟩
  refine p (fun _ => r_assign) <| p (fun _ => r_assign) <| pe ?_
  have hz1 := hs1.size
  have hz2 := hs2.size
  have hz3 := hs23.size
  have hz4 := hs4.size
  have hl3 := hB3.lt
  have hl4 := hB4.lt
  have hl20 := hm20.lt
  have hl22 := hm22.lt
  -- the two lists
  refine W_cut (α := Nat × Nat) [(10, 11), (25, 30)] (fun z => [(10, .slice (some ⟨z.1, 0, none⟩) n n), (11, .slice (some ⟨z.2, 0, none⟩) n n)])
    (fun z w' => Step [] w4 w' ∧ w4.heap.size ≤ z.1 ∧ w4.heap.size ≤ z.2 ∧ z.1 ≠ z.2 ∧ Blk w'.heap z.1 56 ((List.replicate n cv0).flatMap cvCells) ∧ Blk w'.heap z.2 4 ((List.replicate n false).map .bool)) (by rfl) ?_ ?_
  · have e1 : (List.replicate n [Value.slice none 0 0, .slice none 0 0, .bool false, .bool false]).flatten = (List.replicate n cv0).flatMap cvCells := by rw [List.flatMap_def, List.map_replicate]; rfl
    have e2 : (List.replicate n [Value.bool false]).flatten = (List.replicate n false).map .bool := by rw [rep_flat, List.map_replicate]
    refine W_draw2 (Step [] w4) [(0, true), (1, true), (3, true), (4, true)] 2 5 [(6, true), (5, false), (7, true)] [(2, false), (6, true), (7, true)] Tryd.mixed (by rfl) (by kernel_rfl) (Step.drew _ _) ?_
    refine p (fun _ => r_fieldB rfl) <| pq (fun _ hc => r_loadB ((hB4.ext hs24).ext hc) rfl rfl) <| p (fun _ => r_fieldB rfl) <| pq (fun _ hc => r_loadB ((hB4.ext hs24).ext hc) rfl rfl) <|
      pe ⟨⟨rfl, ?_⟩, rfl, ?_⟩
    · refine o_make (n := n) (congrArg (Value.int .i64) hn) (congrArg (Value.int .i64) hn) (by omega) fun b27 w5 hs5 hb27 hB27 => ?_
      have hs45 := (Step.drew [] w4).trans hs5
      have hl27 := hB27.lt
      refine ⟨hs45, p (fun _ => r_assign) <| pk <| o_make (n := n) (congrArg (Value.int .i64) hn) (congrArg (Value.int .i64) hn) (by omega) fun b30 w6 hs6 hb30 hB30 => ?_⟩
      have hb27' : w4.heap.size ≤ b27 := hb27
      have hz5 := hs45.size
      refine ⟨hs45.trans hs6, p (fun _ => r_assign) <| pe ⟨(b27, b30), ⟨rfl, rfl, trivial⟩, hs45.trans hs6, hb27', by simp only []; omega, by simp only [ne_eq]; omega, ?_, ?_⟩⟩
      · rw [← e1]; exact hB27.ext hs6
      · rw [← e2]; exact hB30
    · refine o_make (n := n) (congrArg (Value.int .i64) hn) (congrArg (Value.int .i64) hn) (by omega) fun b30 w5 hs5 hb30 hB30 => ?_
      have hs45 := (Step.drew [] w4).trans hs5
      have hl30 := hB30.lt
      refine ⟨hs45, pk <| o_make (n := n) (congrArg (Value.int .i64) hn) (congrArg (Value.int .i64) hn) (by omega) fun b27 w6 hs6 hb27 hB27 => ?_⟩
      have hb30' : w4.heap.size ≤ b30 := hb30
      have hz5 := hs45.size
      refine ⟨hs45.trans hs6, p (fun _ => r_assign) <| p (fun _ => r_assign) <| pe ⟨(b27, b30), ⟨rfl, rfl, trivial⟩, hs45.trans hs6, by simp only []; omega, hb30', by simp only [ne_eq]; omega, ?_, ?_⟩⟩
      · rw [← e1]; exact hB27
      · rw [← e2]; exact hB30.ext hs6
  rintro ⟨bo, bb⟩ g5 wS ⟨hsS, hbo, hbb, hne, hBo, hBb⟩
  simp only [] at hbo hbb hne hBo hBb
  have hzS := hsS.size
  have hlo := hBo.lt
  have hlb := hBb.lt
  have hs2S := hs24.trans hsS
  have hWS : Step [] w wS := hs12.trans hs2S
  have hnew : ∀ b ∈ [bo, bb], b ∈ L ∨ w.heap.size ≤ b := fun b hb => by
    simp only [List.mem_cons, List.not_mem_nil, or_false] at hb
    right; omega
  have hp5 : AutA [bo, bb] wS.heap pva pvm pve aP := (hp.up hnew).ext hWS
  have hs5 : AutA [bo, bb] wS.heap sa sm se aS := (hs.up hnew).ext hWS
  have ht5 : Tups [bo, bb] wS.heap vt qs := (ht.up hnew).ext hWS
  have hB3S := (hB3.ext hs2).ext hs2S
  have hB4S := hB4.ext hs2S
  have hm20S := (hm20.ext hs4).ext hsS
  have hm22S := hm22.ext hsS
  have n3 : b3 ∉ [bo, bb] := by simp; omega
  have n4 : b4 ∉ [bo, bb] := by simp; omega
  have n20 : b20 ∉ [bo, bb] := by simp; omega
  have n22 : b22 ∉ [bo, bb] := by simp; omega
  refine W_seq <| W_seq <| W_region (by rfl) ?_
  refine x r_move <| x (r_lenA ht5.arr rfl) <| x r_move <| xe ?_
  -- the pairs
  refine W_block <| W_loop (α := Nat × List CV × List Bool) [(13, 14), (16, 20), (33, 122)] (fun z => [(33, .int .i64 z.1)])
    (fun z w' => z.1 ≤ qs.length ∧ Step [bo, bb] wS w' ∧ Blk w'.heap bo 56 (z.2.1.flatMap cvCells) ∧ Blk w'.heap bb 4 (z.2.2.map .bool) ∧ z.2.1.length = n ∧ z.2.2.length = n ∧
      (∀ c ∈ z.2.1, IntsO 3 wS.heap.size w' c.ve c.c.en ∧ IntsO 3 wS.heap.size w' c.vd c.c.dis ∧ c.c.en.length ≤ z.1 * 32 ∧ c.c.dis.length ≤ z.1 * 32) ∧
      z.2.1.map (·.c) = ((qs.map (·.2)).take z.1).foldl (ctlQ aP aS) (List.replicate n ctl0) ∧ z.2.2 = ((qs.map (·.2)).take z.1).foldl (fun o q => o.set (py q).toNat true) (List.replicate n false))
    (fun z => qs.length - z.1) (by rfl) (0, List.replicate n cv0, List.replicate n false) ⟨rfl, trivial⟩
    ⟨Nat.zero_le _, Step.refl _ _, hBo, hBb, by simp, by simp, fun c hc => by
      have := List.eq_of_mem_replicate hc
      subst this
      exact ⟨own_nil _ _ _ _, own_nil _ _ _ _, Nat.zero_le _, Nat.zero_le _⟩, by simp [cv0], by simp⟩ ?_
  rintro ⟨k, cs, os⟩ g w5 ⟨hk, hst, hBo5, hBb5, hcl, hol, hce, hcm, hos⟩
  simp only [] at hk hBo5 hBb5 hcl hol hce hcm hos
  have hz5 := hst.size
  refine W_seq <| W_region (by rfl) ?_
  refine x (r_lss rfl rfl) <| xe ?_
  refine W_seq <| W_ifn rfl (fun h34 => ?_) (fun h34 => ?_)
  · refine W_exit ?_
    refine W_seq <| W_region (by rfl) ?_
    refine x r_move <| x r_move <| x r_assign <| x r_assign <| xe ?_
    rw [List.take_of_length_le (by simp; omega)] at hcm hos
    refine W_ret ⟨[.slice (some ⟨bo, 0, none⟩) n n, .slice (some ⟨bb, 0, none⟩) n n], ⟨rfl, rfl, trivial⟩, hWS.then hst (fun b hb => .inr (by simp only [List.mem_cons, List.not_mem_nil, or_false] at hb; omega)), _, bb, rfl, ⟨cs, ?_, fun L' hL' => ⟨?_, fun c hc => ?_⟩⟩, ?_, by omega, ?_⟩
    · unfold ctls; rw [hnn]; exact hcm
    · rw [hcl]
      exact hBo5.arr (fun hb => by have := hL' _ hb; omega) (by rw [flat_len _ 4 cv_len, hcl]) (by omega) (Nat.le_refl _)
    · obtain ⟨c1, c2, c3, c4⟩ := hce c hc
      exact ⟨IntsO.ints c1 (by omega) (fun b hb => by have := hL' b hb; omega), IntsO.ints c2 (by omega) (fun b hb => by have := hL' b hb; omega)⟩
    · unfold ctls; rw [hnn, ← hcm]
      intro c hc
      obtain ⟨c', hc', rfl⟩ := List.mem_map.1 hc
      obtain ⟨_, _, c3, c4⟩ := hce c' hc'
      exact ⟨by omega, by omega⟩
    · unfold occs; rw [← hos]; exact hBb5
  have hlt : k < qs.length := by omega
  obtain ⟨xi, yi, hqe, hxl, hyl⟩ := Vt2 (hq qs[k] (List.getElem_mem hlt))
  have hyn : yi < n := by omega
  have hyc : yi < cs.length := by omega
  have hqI : Ints [bo, bb] wS.heap qs[k].1 [(xi : Int), (yi : Int)] := by rw [← hqe]; exact ht5.each qs[k] (List.getElem_mem hlt)
  obtain ⟨ce1, ce2, ce3, ce4⟩ := hce cs[yi] (List.getElem_mem hyc)
  generalize hcv : cs[yi] = cv at ce1 ce2 ce3 ce4
  refine W_skip ?_
  refine W_seq <| W_block <| W_seq <| W_region (by rfl) ?_
  refine xig (g := tvCells) (fun _ => rfl) (ht5.arr.st hst) rfl rfl hlt fun a35 h35 => x (r_loadA h35 rfl) <| x r_assign <| xe ?_
  refine W_seq <| W_region (by rfl) ?_
  refine x r_move <| x r_move <| xii (i := 1) (hqI.st hst) rfl rfl (by simp) fun a39 h39 => x (r_loadA h39 rfl) <| x (r_indexB (i := yi) rfl rfl hyn) <|
    x r_assign <| xe ?_
  refine W_seq <| W_region (by rfl) ?_
  refine x r_move <| x r_move <| xii (i := 1) (hqI.st hst) rfl rfl (by simp) fun a44 h44 => x (r_loadA h44 rfl) <| x (r_indexB (i := yi) rfl rfl hyn) <|
    xl rfl <| o_store (u := .bool true) hBb5 rfl rfl (by simp; omega) rfl fun w6 hs6 hBb6 => xe ?_
  have hs6' : Step [bo, bb] w5 w6 := hs6.mono (by simp)
  have hst6 := hst.trans' hs6'
  have hBb6' : Blk w6.heap bb 4 ((os.set yi true).map .bool) := by rw [List.map_set]; simpa using hBb6
  have hBo6 : Blk w6.heap bo 56 (cs.flatMap cvCells) := hBo5.step hs6 (by simp [hne])
  refine W_seq <| W_draw (Step [] w6) [(0, true), (1, true), (2, true), (3, true), (4, true), (5, true), (6, false), (7, true), (8, true), (9, false)] Tryd.mixed (by rfl) (by kernel_rfl) (Step.drew _ _) ?_
  refine p (fun _ => r_move) <| p (fun _ => r_fieldB rfl) <| pq (fun _ hc => r_loadB ((hB4S.step hst6 n4).ext hc) rfl rfl) <| p (fun _ => r_move) <| pii (i := 1) rfl (hqI.st hst6) rfl rfl (by simp) fun a51 h51 =>
    pq (fun _ hc => r_loadA (h51.ext hc) rfl) <| pk <| xf <| (alContains_ok (((hs5.mr.st hst6)).ext (Step.drew _ _)) hso.mri _).mono ?_
  rintro r7 w7 ⟨rfl, rfl⟩
  refine ⟨Step.drew _ _, ?_⟩
  refine p (fun _ => r_nilCheck rfl) <| p (fun _ => r_fieldB rfl) <|
    pkl (hl := by kernel_rfl) <| o_store (hBo6.ext (Step.drew _ _)) rfl rfl (by rw [flat_len _ 4 cv_len]; omega) rfl fun w8 hs8 hBo8 => pe ?_
  have hs8' : Step [bo, bb] w6 w8 := ((Step.drew [bo, bb] w6).then hs8 (fun b hb => .inl (by simp at hb; simp [hb])))
  have hst8 := hst6.trans' hs8'
  have hBb8 : Blk w8.heap bb 4 ((os.set yi true).map .bool) := (hBb6'.ext (Step.drew [] w6)).step hs8 (by simp; omega)
  have hBo8' : Blk w8.heap bo 56 ((cs.set yi ⟨cv.ve, cv.vd, ⟨cv.c.en, cv.c.dis, decide ((yi : Int) ∈ aS.mr), cv.c.ps⟩⟩).flatMap cvCells) := by
    rw [← flat_set0 (j := 2) (u := .bool (decide ((yi : Int) ∈ aS.mr))) hyc (by omega) (by rw [hcv]; rfl)]; exact hBo8
  generalize hcs1 : cs.set yi ⟨cv.ve, cv.vd, ⟨cv.c.en, cv.c.dis, decide ((yi : Int) ∈ aS.mr), cv.c.ps⟩⟩ = cs1 at hBo8'
  have hl1 : cs1.length = n := by rw [← hcs1]; simpa using hcl
  have hy1 : yi < cs1.length := by omega
  have hcv1 : cs1[yi] = ⟨cv.ve, cv.vd, ⟨cv.c.en, cv.c.dis, decide ((yi : Int) ∈ aS.mr), cv.c.ps⟩⟩ := by subst hcs1; simp
  have hset1 : ∀ c, cs1.set yi c = cs.set yi c := fun c => by subst hcs1; simp
  refine W_cut (α := Unit) [(56, 70)] (fun z => []) (fun z w' => Step [bo, bb] w8 w' ∧ Blk w'.heap bb 4 ((os.set yi true).map .bool) ∧ Blk w'.heap bo 56 ((cs.set yi ⟨cv.ve, cv.vd, ctlB aP aS xi yi cv.c⟩).flatMap cvCells)) (by rfl) ?_ ?_
  · cases hps : cv.c.ps with
    | true =>
      refine W_draw (Step [] w8) [(0, true), (1, true), (2, true), (3, true), (4, true), (5, true), (6, true), (7, true), (8, true), (9, true), (10, true), (11, false), (12, true), (13, true), (14, true), (15, false)] Tryd.mixed (by rfl) (by kernel_rfl) (Step.drew _ _) ?_
      refine p (fun _ => r_move) <| p (fun _ => r_move) <| p (fun _ => r_nilCheck rfl) <| p (fun _ => r_fieldB rfl) <| pq (fun _ hc => r_loadB (u := .bool true) (hBo8'.ext hc) rfl (by rw [flat_get0 hy1 (by omega), hcv1]; simp [hps])) <| p (fun _ => r_move) <|
        ps <| ps <| ps <| ps <| ps <| ps <| p (fun _ => r_pick rfl) <|
        p (fun _ => r_nilCheck rfl) <| p (fun _ => r_fieldB rfl) <| pkl (hl := by kernel_rfl) <| o_store (u := .bool true) (hBo8'.ext (Step.drew _ _)) rfl rfl (by rw [flat_len _ 4 cv_len]; omega) rfl fun w10 hs10 hBo10 => pe ?_
      refine ⟨(), trivial, (Step.drew [bo, bb] w8).then hs10 (fun b hb => .inl (by simp at hb; simp [hb])), (hBb8.ext (Step.drew [] w8)).step hs10 (by simp; omega), ?_⟩
      rw [← hset1, ← flat_set0 (j := 3) (u := .bool true) hy1 (by omega) (by rw [hcv1]; simp [ctlB, hps])]; exact hBo10
    | false =>
      refine W_draw (Step [] w8) [(0, true), (1, true), (2, true), (3, true), (4, true), (5, true), (6, true), (7, true), (8, true), (9, true), (10, true), (11, false), (12, true), (13, true), (14, true), (15, false)] Tryd.mixed (by rfl) (by kernel_rfl) (Step.drew _ _) ?_
      refine p (fun _ => r_move) <| p (fun _ => r_move) <| p (fun _ => r_nilCheck rfl) <| p (fun _ => r_fieldB rfl) <| pq (fun _ hc => r_loadB (u := .bool false) (hBo8'.ext hc) rfl (by rw [flat_get0 hy1 (by omega), hcv1]; simp [hps])) <| p (fun _ => r_move) <|
        p (fun _ => r_fieldB rfl) <| pq (fun _ hc => r_loadB ((hB3S.step hst8 n3).ext hc) rfl rfl) <| p (fun _ => r_move) <| pii (i := 0) rfl (hqI.st hst8) rfl rfl (by simp) fun a65 h65 =>
        pq (fun _ hc => r_loadA (h65.ext hc) rfl) <| pk <| xf <| (alContains_ok ((hp5.mr.st hst8).ext (Step.drew _ _)) hpo.mri _).mono ?_
      rintro r9 w9 ⟨rfl, rfl⟩
      refine ⟨Step.drew _ _, ?_⟩
      refine p (fun _ => r_pick rfl) <|
        p (fun _ => r_nilCheck rfl) <| p (fun _ => r_fieldB rfl) <| pkl (hl := by kernel_rfl) <| o_store (u := .bool (decide ((xi : Int) ∈ aP.mr))) (hBo8'.ext (Step.drew _ _)) rfl rfl (by rw [flat_len _ 4 cv_len]; omega) rfl fun w10 hs10 hBo10 => pe ?_
      refine ⟨(), trivial, (Step.drew [bo, bb] w8).then hs10 (fun b hb => .inl (by simp at hb; simp [hb])), (hBb8.ext (Step.drew [] w8)).step hs10 (by simp; omega), ?_⟩
      rw [← hset1, ← flat_set0 (j := 3) (u := .bool (decide ((xi : Int) ∈ aP.mr))) hy1 (by omega) (by rw [hcv1]; simp [ctlB, hps])]; exact hBo10
  rintro _ g8 w11 ⟨hs11, hBb11, hBo11⟩
  have hst11 := hst8.trans' hs11
  have hs511 : Step [bo, bb] w5 w11 := (hs6'.trans' hs8').trans' hs11
  have hnb : ∀ v : Value, (∀ b ∈ ob v, wS.heap.size ≤ b) → ∀ b ∈ ob v, b ∉ [bo, bb] := fun v hv b hb => by have := hv b hb; simp; omega
  refine W_seq <| W_region (by rfl) ?_
  refine x (r_fieldB rfl) <| x (r_loadB (hB4S.step hst11 n4) rfl rfl) <| x (r_lenA hs5.al rfl) <| x r_move <| xe ?_
  -- the events
  refine W_block <| W_loop (α := Nat × CV) [(16, 20), (74, 121)] (fun z => [(74, .int .i64 z.1)])
    (fun z w' => z.1 ≤ aS.al.length ∧ Step [bo, bb] w11 w' ∧ Blk w'.heap bb 4 ((os.set yi true).map .bool) ∧ Blk w'.heap bo 56 ((cs.set yi z.2).flatMap cvCells) ∧
      z.2.c = (aS.al.take z.1).foldl (ctlE aP aS xi yi) (ctlB aP aS xi yi cv.c) ∧ IntsO 3 wS.heap.size w' z.2.ve z.2.c.en ∧ IntsO 3 wS.heap.size w' z.2.vd z.2.c.dis ∧ z.2.c.en.length ≤ k * 32 + z.1 ∧ z.2.c.dis.length ≤ k * 32 + z.1)
    (fun z => aS.al.length - z.1) (by rfl) (0, ⟨cv.ve, cv.vd, ctlB aP aS xi yi cv.c⟩) ⟨rfl, trivial⟩
    ⟨Nat.zero_le _, Step.refl _ _, hBb11, hBo11, rfl, own_step ce1 hs511 (hnb _ (fun b hb => (own_ge ce1 b hb).1)), own_step ce2 hs511 (hnb _ (fun b hb => (own_ge ce2 b hb).1)), ce3, ce4⟩ ?_
  rintro ⟨j, cz⟩ g12 w12 ⟨hj, hs12', hBb12, hBo12, hcz, hez, hdz, hel, hdl⟩
  simp only [] at hj hBo12 hcz hez hdz hel hdl
  have hst12 := hst11.trans' hs12'
  have hz12 := hst12.size
  have hcy : yi < (cs.set yi cz).length := by simpa using hyc
  have hczg : (cs.set yi cz)[yi] = cz := by simp
  refine W_seq <| W_region (by rfl) ?_
  refine x (r_lss rfl rfl) <| xe ?_
  refine W_seq <| W_ifn rfl (fun h75 => ?_) (fun h75 => ?_)
  · refine W_exit ?_
    refine W_region (by rfl) ?_
    refine x (r_add rfl rfl ⟨by omega, by omega⟩) <| x r_move <| xe ?_
    rw [List.take_of_length_le (by omega)] at hcz
    have htk : (qs.map (·.2)).take (k + 1) = (qs.map (·.2)).take k ++ [qs[k].2] := by rw [List.take_succ_eq_append_getElem (by simpa using hlt), List.getElem_map]
    refine ⟨(k + 1, cs.set yi cz, os.set yi true), by simp only []; omega, ⟨rfl, trivial⟩, hlt, hst12, hBo12, hBb12, by simpa using hcl, by simpa using hol, fun c hc => ?_, ?_, ?_⟩
    · rcases List.mem_or_eq_of_mem_set hc with hc | rfl
      · obtain ⟨c1, c2, c3, c4⟩ := hce c hc
        have hs512 := hs511.trans' hs12'
        exact ⟨own_step c1 hs512 (hnb _ (fun b hb => (own_ge c1 b hb).1)), own_step c2 hs512 (hnb _ (fun b hb => (own_ge c2 b hb).1)), by simp only []; omega, by simp only []; omega⟩
      · exact ⟨hez, hdz, by simp only []; omega, by simp only []; omega⟩
    · simp only []
      rw [htk, List.foldl_append, ← hcm, List.map_set, hcz]
      show _ = ctlQ aP aS (cs.map (·.c)) qs[k].2
      unfold ctlQ ctlP
      rw [hqe, show py [(xi : Int), (yi : Int)] = (yi : Int) from rfl, show px [(xi : Int), (yi : Int)] = (xi : Int) from rfl, Int.toNat_natCast, occ_get rfl hcl hyn, hcv]
    · simp only []
      rw [htk, List.foldl_append, ← hos, hqe]
      show _ = os.set (py [(xi : Int), (yi : Int)]).toNat true
      rw [show py [(xi : Int), (yi : Int)] = (yi : Int) from rfl, Int.toNat_natCast]
  have hltj : j < aS.al.length := by omega
  have htj : aS.al.take (j + 1) = aS.al.take j ++ [aS.al[j]] := List.take_succ_eq_append_getElem hltj
  have hali := hs5.al.st hst12
  obtain ⟨v, hv⟩ : ∃ v, aS.al[j] = v := ⟨_, rfl⟩
  have hnext : (aS.al.take (j + 1)).foldl (ctlE aP aS xi yi) (ctlB aP aS xi yi cv.c) = ctlE aP aS xi yi cz.c v := by rw [htj, List.foldl_append, ← hcz, hv]; rfl
  refine W_skip ?_
  refine W_seq <| W_block <| W_seq <| W_region (by rfl) ?_
  refine xii hali rfl rfl hltj fun a76 h76 => ?_
  rw [hv] at h76
  refine x (r_loadA h76 rfl) <| x r_assign <| xe ?_
  have hg1 := edMap_get aP.ed [] xi v hpo.edi
  have hg2 := edMap_get aS.ed [] yi v hso.edi
  have hm20' := hm20S.step hst12 n20
  have hm22' := hm22S.step hst12 n22
  rcases optC (eget aP.ed xi v) with he1 | ⟨t1, he1⟩
  · rw [he1] at hg1
    refine W_seq <| W_seq <| W_region (by rfl) ?_
    refine x r_move <| x r_move <| xii (i := 0) (hqI.st hst12) rfl rfl (by simp) fun a81 h81 => x (r_loadA h81 rfl) <| x r_move <| x (r_build ⟨rfl, rfl, trivial⟩) <|
      x (r_lookupN (k := ((xi : Int), v)) hm20' rfl rfl hg1) <| x r_move <| x (r_extract rfl rfl) <| x (r_extract rfl rfl) <| x r_assign <| x r_assign <| xe ?_
    refine W_seq <| W_region (by rfl) ?_
    refine x r_move <| x (r_not rfl) <| xe ?_
    refine W_true rfl ?_
    refine W_exit ?_
    refine W_region (by rfl) ?_
    refine x (r_add rfl rfl ⟨by omega, by omega⟩) <| x r_move <| xe ?_
    refine ⟨(j + 1, cz), by simp only []; omega, ⟨rfl, trivial⟩, hltj, hs12', hBb12, hBo12, ?_, hez, hdz, by simp only []; omega, by simp only []; omega⟩
    simp only []
    rw [hnext]; unfold ctlE; rw [he1]
  rw [he1] at hg1
  have hc2 := optC (eget aS.ed yi v)
  refine W_seq <| W_seq <| W_region (by rfl) ?_
  refine x r_move <| x r_move <| xii (i := 0) (hqI.st hst12) rfl rfl (by simp) fun a81 h81 => x (r_loadA h81 rfl) <| x r_move <| x (r_build ⟨rfl, rfl, trivial⟩) <|
    x (r_lookupS (k := ((xi : Int), v)) hm20' rfl rfl hg1) <| x r_move <| x (r_extract rfl rfl) <| x (r_extract rfl rfl) <| x r_assign <| x r_assign <| xe ?_
  refine W_seq <| W_region (by rfl) ?_
  refine x r_move <| x (r_not rfl) <| xe ?_
  refine W_false rfl ?_
  refine W_skip ?_
  refine W_seq <| W_region (by rfl) ?_
  rcases hc2 with he2 | ⟨t2, he2⟩
  rotate_left
  · rw [he2] at hg2
    refine x r_move <| x r_move <| xii (i := 1) (hqI.st hst12) rfl rfl (by simp) fun a93 h93 => x (r_loadA h93 rfl) <| x r_move <| x (r_build ⟨rfl, rfl, trivial⟩) <|
      x (r_lookupS (k := ((yi : Int), v)) hm22' rfl rfl hg2) <| x r_move <| x (r_extract rfl rfl) <| x (r_extract rfl rfl) <| x r_assign <| x r_assign <| xe ?_
    refine W_seq <| W_region (by rfl) ?_
    refine x r_move <| xe ?_
    refine W_true rfl ?_
    refine W_region (by rfl) ?_
    refine x r_move <| x r_move <| x (r_nilCheck rfl) <| x (r_fieldB rfl) <| x (r_loadB (u := cz.ve) hBo12 rfl (by rw [flat_get0 hcy (by omega), hczg]; rfl)) <| x r_move <| xl rfl <| o_lits (us := [[.int .i64 v]]) rfl rfl (by decide) (by simp) ⟨rfl, rfl, trivial⟩ fun b107 w13 hs13 hb107 hB107 => ?_
    have hV : Ints [] w13.heap (.slice (some ⟨b107, 0, none⟩) 1 1) [v] := hB107.arr (by simp) rfl (by simp) (by simp)
    refine xl rfl <| xf <| (Union_ok (IntsO.ints (L := []) (own_ext hez hs13) (by omega) (by simp)) hV (by simp; omega)).mono ?_
    rintro vU w14 ⟨hs14, hU⟩
    have hs1314 := hs13.trans hs14
    have hul := uni1_len cz.c.en v
    have hUA := IntsO.ints (L := []) (l := uni1 cz.c.en v) hU (by omega) (by simp)
    refine x (r_nilCheck rfl) <| x (r_fieldB rfl) <| xl rfl <| o_store (u := vU) (hBo12.ext hs1314) rfl rfl (by rw [flat_len _ 4 cv_len]; omega) hUA.one fun w15 hs15 hBo15 =>
      xe ?_
    have hs1215 : Step [bo, bb] w12 w15 := (hs1314.any).then hs15 (fun b hb => .inl (by simp at hb; simp [hb]))
    have hU' := own_base (base' := wS.heap.size) hU (by have := hs13.size; omega)
    refine W_region (by rfl) ?_
    refine x (r_add rfl rfl ⟨by omega, by omega⟩) <| x r_move <| xe ?_
    refine ⟨(j + 1, ⟨vU, cz.vd, ⟨uni1 cz.c.en v, cz.c.dis, cz.c.mk', cz.c.ps⟩⟩), by simp only []; omega, ⟨rfl, trivial⟩, hltj, hs12'.trans' hs1215, (hBb12.ext hs1314).step hs15 (by simp; omega), ?_, ?_,
      own_step hU' hs15 (fun b hb => by have := (own_ge hU' b hb).1; simp; omega), own_step (own_ext hdz hs1314) hs15 (fun b hb => by have := (own_ge hdz b hb).1; simp; omega), by simp only []; omega, by simp only []; omega⟩
    · have := flat_set0 (cs := cs.set yi cz) (i := yi) (j := 0) (u := vU) (y := ⟨vU, cz.vd, ⟨uni1 cz.c.en v, cz.c.dis, cz.c.mk', cz.c.ps⟩⟩) hcy (by omega) (by rw [hczg]; rfl)
      rw [List.set_set] at this
      simp only []
      rw [← this]; exact hBo15
    · simp only []
      rw [hnext]; unfold ctlE; rw [he1]; simp only []; rw [he2]
  · rw [he2] at hg2
    refine x r_move <| x r_move <| xii (i := 1) (hqI.st hst12) rfl rfl (by simp) fun a93 h93 => x (r_loadA h93 rfl) <| x r_move <| x (r_build ⟨rfl, rfl, trivial⟩) <|
      x (r_lookupN (k := ((yi : Int), v)) hm22' rfl rfl hg2) <| x r_move <| x (r_extract rfl rfl) <| x (r_extract rfl rfl) <| x r_assign <| x r_assign <| xe ?_
    refine W_seq <| W_region (by rfl) ?_
    refine x r_move <| xe ?_
    refine W_false rfl ?_
    refine W_region (by rfl) ?_
    refine x r_move <| x r_move <| x (r_nilCheck rfl) <| x (r_fieldB rfl) <| x (r_loadB (u := cz.vd) hBo12 rfl (by rw [flat_get0 hcy (by omega), hczg]; rfl)) <| x r_move <| xl rfl <| o_lits (us := [[.int .i64 v]]) rfl rfl (by decide) (by simp) ⟨rfl, rfl, trivial⟩ fun b107 w13 hs13 hb107 hB107 => ?_
    have hV : Ints [] w13.heap (.slice (some ⟨b107, 0, none⟩) 1 1) [v] := hB107.arr (by simp) rfl (by simp) (by simp)
    refine xl rfl <| xf <| (Union_ok (IntsO.ints (L := []) (own_ext hdz hs13) (by omega) (by simp)) hV (by simp; omega)).mono ?_
    rintro vU w14 ⟨hs14, hU⟩
    have hs1314 := hs13.trans hs14
    have hul := uni1_len cz.c.dis v
    have hUA := IntsO.ints (L := []) (l := uni1 cz.c.dis v) hU (by omega) (by simp)
    refine x (r_nilCheck rfl) <| x (r_fieldB rfl) <| xl rfl <| o_store (u := vU) (hBo12.ext hs1314) rfl rfl (by rw [flat_len _ 4 cv_len]; omega) hUA.one fun w15 hs15 hBo15 =>
      xe ?_
    have hs1215 : Step [bo, bb] w12 w15 := (hs1314.any).then hs15 (fun b hb => .inl (by simp at hb; simp [hb]))
    have hU' := own_base (base' := wS.heap.size) hU (by have := hs13.size; omega)
    refine W_region (by rfl) ?_
    refine x (r_add rfl rfl ⟨by omega, by omega⟩) <| x r_move <| xe ?_
    refine ⟨(j + 1, ⟨cz.ve, vU, ⟨cz.c.en, uni1 cz.c.dis v, cz.c.mk', cz.c.ps⟩⟩), by simp only []; omega, ⟨rfl, trivial⟩, hltj, hs12'.trans' hs1215, (hBb12.ext hs1314).step hs15 (by simp; omega), ?_, ?_,
      own_step (own_ext hez hs1314) hs15 (fun b hb => by have := (own_ge hez b hb).1; simp; omega), own_step hU' hs15 (fun b hb => by have := (own_ge hU' b hb).1; simp; omega), by simp only []; omega, by simp only []; omega⟩
    · have := flat_set0 (cs := cs.set yi cz) (i := yi) (j := 1) (u := vU) (y := ⟨cz.ve, vU, ⟨cz.c.en, uni1 cz.c.dis v, cz.c.mk', cz.c.ps⟩⟩) hcy (by omega) (by rw [hczg]; rfl)
      rw [List.set_set] at this
      simp only []
      rw [← this]; exact hBo15
    · simp only []
      rw [hnext]; unfold ctlE; rw [he1]; simp only []; rw [he2]
end Go.Proofs.YtfhgnlkdcdlblaaDoor
