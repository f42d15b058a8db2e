/- Merged out of 4 texts. -/
import Derived.Test.YtfhgnlkdcdlblaaDoorKbd
import Derived.Test.YtfhgnlkdcdlblaaDoorKba
import Derived.ChangeSame
import Derived.Carry
import Derived.OpenShut
import Derived.RowKit
import Derived.Test.YtfhgnlkdcdlblaaDoorKbc
import Derived.ChangeSlices
import Derived.WideShapes
import Derived.ProofKit
/- Contract: law30's reduce, the walk. -/
namespace Go.Proofs.YtfhgnlkdcdlblaaDoor
open Go.Lg

set_option maxHeartbeats 16000000 in
theorem lreduce_ok {w : World} {pva pvm pve sva svm sve : Value} {aP aS : Aut} (hP : AutA [] w.heap pva pvm pve aP) (hS : AutA [] w.heap sva svm sve aS) (hPb : Pb aP aS) :
    Ret Tryd.prog 13 [.agg #[pva, .int .i64 aP.st, pvm, pve], .agg #[sva, .int .i64 aS.st, svm, sve]] w fun r w' => Step [] w w' ∧ ∃ vn va, r = .tuple #[vn, va] ∧ Ints [] w'.heap vn (lwNums (lwCls aP aS)).1 ∧ AutF w.heap.size w'.heap va (canA (lwRed aP aS)) := by
  have hE0 := hPb.opE0
  obtain ⟨o1, o2, _, hv, hl⟩ := opE_zero hE0
  have hR := red_law hE0
  have hst0 := o2.st0
  have hs5 := hPb.s5
  have hal := o2.al_le
  have hctl := ctls_eq o1 o2 hv
  refine exE (aS.st.toNat) fun N hN => ?_
  have hNst : aS.st = (N : Int) := by omega
  have hN5 : N ≤ 5 := by omega
  rw [hN] at hctl
  refine exE (ctls aP aS (opQ aP aS)) fun l hlE => ?_
  rw [hlE] at hctl
  have hnk := hR.nk
  have hls := hR.tr.ls
  have hld := hR.tr.ld
  have hcls : lwCls aP aS = lwA aS l (lw0 N (opQ aP aS)) := by unfold lwCls; rw [hN, hlE]
  have hred : lwRed aP aS = lwAut aS l (lwNums (lwCls aP aS)).1 N (lwNums (lwCls aP aS)).2 := by unfold lwRed; rw [hN, hlE]
  have hrok := hR.ok
  rw [hred] at hrok ⊢
  rw [hN, hlE] at hnk
  rw [hN] at hls hld
  refine exE (lwCls aP aS) fun C hC => ?_
  rw [hC] at hcls hls hld hnk hrok ⊢
  have hnx : ∀ x, x < N → ∀ e ∈ (lget l x).en, 0 ≤ nxt aS.ed x e ∧ nxt aS.ed x e < N := fun x hx e he => by
    have h1 := hnk.nx x hx e he
    have h2 := nxt_lt o2 (s := x) (v := e) (by rw [h1.1]; omega)
    exact ⟨by rw [h1.1]; exact h1.2, by rw [← hNst]; exact h2⟩
  refine Ret.of_W Tryd.func13 rfl Tryd.ntmps13 Tryd.results13 (by simp) ?_
  refine W_seq <| W_region (by rfl) ?_
  refine xl rfl <| o_box (us := [pva, .int .i64 aP.st, pvm, pve]) rfl fun b2 w1 hs1 hb2 hB2 => xl rfl <| o_box (us := [sva, .int .i64 aS.st, svm, sve]) rfl fun b3 w2 hs2 hb3 hB3 => x r_assign <| xl rfl <| o_alloc (us := [.slice none 0 0, .int .i64 0, .slice none 0 0, .slice none 0 0]) rfl fun b5 w3 hs3 hb5 hB5 =>
    xe ?_
  have hs13 := (hs1.trans hs2).trans hs3
  have hzb5 : w.heap.size ≤ b5 := by have := (hs1.trans hs2).size; omega
  refine W_seq <| W_region (by rfl) ?_
  refine x (r_loadsB ((hB2.ext hs2).ext hs3) rfl rfl) <| x (r_loadsB (hB3.ext hs3) rfl rfl) <| xl rfl <| o_lits (us := [avCells ⟨pva, pvm, pve, aP⟩, avCells ⟨sva, svm, sve, aS⟩]) rfl rfl (by decide) (by exact (by decide : 2 * 4 ≤ 1000000)) ⟨rfl, rfl, rfl, rfl, trivial⟩ fun b32 w4 hs4 hb32 hB32 => ?_
  have hs14 := hs13.trans hs4
  have hAu : Auts [] w4.heap (.slice (some ⟨b32, 0, none⟩) 2 2) [⟨pva, pvm, pve, aP⟩, ⟨sva, svm, sve, aS⟩] := by
    refine ⟨hB32.arr (by simp) rfl (by simp) (by simp), fun q hq => ?_⟩
    simp only [List.mem_cons, List.not_mem_nil, or_false] at hq
    rcases hq with rfl | rfl
    · exact hP.ext hs14
    · exact hS.ext hs14
  refine xl rfl <| xf <| (Synchronous_ok hAu (by intro q hq; simp only [List.mem_cons, List.not_mem_nil, or_false] at hq; rcases hq with rfl | rfl; exact (hPb.st100 o1 o2).1; exact (hPb.st100 o1 o2).2)).mono ?_
  rintro r5 w5 ⟨hs5w, vb, vt, c5, rfl, hR5⟩
  obtain ⟨hc5, hO⟩ := OpRes.of hPb.opC0 hR5
  rw [hE0] at hc5
  subst hc5
  obtain ⟨hFb, hFt⟩ := hO.good hE0
  obtain ⟨bva, bvm, bve, rfl, hBA⟩ := hFb
  obtain ⟨qs, hqe, hqs⟩ := hFt
  have hB13 := hBA [] (by simp)
  have hT5 := hqs [] (by simp)
  refine x r_move <| x (r_extract rfl rfl) <| x (r_extract rfl rfl) <| x (r_extract rfl rfl) <|
    xl rfl <| o_alloc (us := [.slice none 0 0, .int .i64 0, .slice none 0 0, .slice none 0 0]) rfl fun b6 w6 hs6 hb6 hB6 => xl rfl <| o_stores (us := [bva, .int .i64 (opA aP aS).st, bvm, bve]) hB6 rfl rfl rfl rfl ⟨hB13.al.one, rfl, hB13.mr.one, hB13.ed.one, trivial⟩ fun w7 hs7 hB67 => x r_assign <| x r_assign <| xe ?_
  have hs57 : Step [] w5 w7 := hs6.then1 hs7 hb6
  have hs37 : Step [] w3 w7 := (hs4.trans hs5w).trans hs57
  have hW7 := hs13.trans hs37
  have hP7 := hP.ext hW7
  have hS7 := hS.ext hW7
  have hB27 := ((hB2.ext hs2).ext hs3).ext hs37
  have hB37 := (hB3.ext hs3).ext hs37
  have hB57 := hB5.ext hs37
  have hl57 := hB57.lt
  have hT7 := hT5.ext hs57
  have hqsl : qs.length ≤ 4096 := by rw [← hqe] at hl; simpa using hl
  have hqv : ∀ q ∈ qs, Vt [aP, aS] q.2 := fun q hq => hv q.2 (by rw [← hqe]; exact List.mem_map_of_mem hq)
  refine W_seq <| W_region (by rfl) ?_
  refine x r_assign <| xe ?_
  refine W_seq <| W_region (by rfl) ?_
  refine x r_assign <| xe ?_
  refine W_seq <| W_seq <| W_region (by rfl) ?_
  refine x r_assign <| xe ?_
  refine W_block <| W_loop (α := Nat × Value × Value × List CV) [(9, 13), (37, 62)] (fun z => [(9, z.2.1), (10, z.2.2.1), (11, .int .i64 z.1)])
    (fun z w' => z.1 ≤ N ∧ RdL w7 z.2.1 z.2.2.1 z.2.2.2 (lw0 z.1 (opQ aP aS)) w' ∧ z.2.2.2.map (·.c) = (List.range' 0 z.1).map fun x : Nat => ctlD aP aS (opQ aP aS) x) (fun z => N - z.1) (by rfl) (0, .slice none 0 0, .slice none 0 0, []) ⟨rfl, rfl, rfl, trivial⟩
    ⟨Nat.zero_le _, ⟨Step.refl _ _, own_nil _ _ _ _, own_nil _ _ _ _, Dj.nil _, fun p hp => by cases hp⟩, rfl⟩ ?_
  rintro ⟨k, vl, vc, cs⟩ g8 w8 ⟨hk, hL8, hcs8⟩
  simp only [] at hk hL8 hcs8
  have hcl8 : cs.length = k := by have := congrArg List.length hcs8; simpa using this
  have hs8 := hL8.st
  have hB38 := hB37.ext hs8
  refine W_seq <| W_seq <| W_region (by rfl) ?_
  refine x r_move <| x (r_fieldB rfl) <| x (r_loadB hB38 rfl rfl) <| x (r_lss rfl rfl) <| xe ?_
  refine W_ifn rfl (fun h40 => ?_) (fun h40 => ?_)
  · refine W_exit ?_
    have hkN : k = N := by have h41 : ¬ (k : Int) < aS.st := h40; omega
    rw [hkN] at hL8 hcs8 hcl8
    rw [← hctl] at hcs8
    have hCt8 : Ctls [] w8.heap vl cs := hL8.ctls (by omega)
    have hC8 : Ints [] w8.heap vc (lw0 N (opQ aP aS)) := IntsO.ints (L := []) hL8.c (by rw [lw0_len]; omega) (by simp)
    have hnx' : ∀ x, x < N → ∀ e ∈ (lget (cs.map (·.c)) x).en, 0 ≤ nxt aS.ed x e ∧ nxt aS.ed x e < N := by rw [hcs8]; exact hnx
    have hcls' : (List.range' 0 N).foldl (lwTX aS l N) (lw0 N (opQ aP aS)) = C := by rw [hcls]; unfold lwA; rw [lw0_len]
    refine W_seq <| W_seq <| W_region (by rfl) ?_
    refine x r_assign <| xe ?_
    refine W_block <| W_loop (α := Nat × Value × List Int) [(10, 10), (14, 15), (63, 108)] (fun z => [(10, z.2.1), (14, .int .i64 z.1)])
      (fun z w' => z.1 ≤ N ∧ Step [] w8 w' ∧ Ints [] w'.heap z.2.1 z.2.2 ∧ z.2.2.length = N ∧ (List.range' z.1 (N - z.1)).foldl (lwTX aS l N) z.2.2 = C) (fun z => N - z.1) (by rfl) (0, vc, lw0 N (opQ aP aS)) ⟨rfl, rfl, trivial⟩
      ⟨Nat.zero_le _, Step.refl _ _, hC8, lw0_len _ _, hcls'⟩ ?_
    rintro ⟨i, vc9, c9⟩ g9 w9 ⟨hi, hs9, hC9, hl9, hr9⟩
    simp only [] at hi hC9 hl9 hr9
    have hB39 := hB38.ext hs9
    refine W_seq <| W_seq <| W_region (by rfl) ?_
    refine x r_move <| x (r_fieldB rfl) <| x (r_loadB hB39 rfl rfl) <| x (r_lss rfl rfl) <| xe ?_
    refine W_ifn rfl (fun h66 => ?_) (fun h66 => ?_)
    · refine W_exit ?_
      have hiN : N ≤ i := by have h67 : ¬ (i : Int) < aS.st := h66; omega
      rw [rng_nil hiN] at hr9
      have hr9' : c9 = C := hr9
      rw [hr9'] at hC9
      have hW9 := (hW7.trans hs8).trans hs9
      refine W_seq <| W_region (by rfl) ?_
      refine x r_assign <| xe ?_
      refine W_seq <| W_region (by rfl) ?_
      refine x r_assign <| xe ?_
      refine W_seq <| W_seq <| W_region (by rfl) ?_
      refine x r_assign <| xe ?_
      have hCl : C.length = N := hld
      refine W_block <| W_loop (α := Nat × Value × List Int × Nat) [(16, 18), (109, 146)] (fun z => [(16, z.2.1), (17, .int .i64 z.2.2.2), (18, .int .i64 z.1)])
        (fun z w' => z.1 ≤ N ∧ z.2.2.2 ≤ z.1 ∧ Step [] w9 w' ∧ IntsO 3 w9.heap.size w' z.2.1 z.2.2.1 ∧ z.2.2.1.length = z.1 ∧ (List.range' 0 z.1).foldl (lwN C) ([], 0) = (z.2.2.1, z.2.2.2)) (fun z => N - z.1) (by rfl) (0, .slice none 0 0, [], 0) ⟨rfl, rfl, rfl, trivial⟩
        ⟨Nat.zero_le _, Nat.zero_le _, Step.refl _ _, own_nil _ _ _ _, rfl, rfl⟩ ?_
      rintro ⟨q, vn, nm, m⟩ g10 w10 ⟨hq, hmq, hs10, hn10, hnl, hr10⟩
      simp only [] at hq hmq hn10 hnl hr10
      have hB310 := hB39.ext hs10
      have hz10 := hs10.size
      refine W_seq <| W_seq <| W_region (by rfl) ?_
      refine x r_move <| x (r_fieldB rfl) <| x (r_loadB hB310 rfl rfl) <| x (r_lss rfl rfl) <| xe ?_
      refine W_ifn rfl (fun h112 => ?_) (fun h112 => ?_)
      · refine W_exit ?_
        have hqN : q = N := by have h113 : ¬ (q : Int) < aS.st := h112; omega
        rw [hqN] at hr10 hmq hnl
        have hnums : lwNums C = (nm, m) := by unfold lwNums; rw [hCl]; exact hr10
        rw [hnums] at hnk hrok ⊢
        simp only [] at hnk hrok
        have hW10 := hW9.trans hs10
        have hN10 : Ints [] w10.heap vn nm := IntsO.ints (L := []) hn10 (by omega) (by simp)
        have hS10 := ((hS7.ext hs8).ext hs9).ext hs10
        have hCt10 := (hCt8.ext hs9).ext hs10
        refine W_seq <| W_region (by rfl) ?_
        refine x (r_fieldB rfl) <| x (r_loadB hB310 rfl rfl) <| x r_move <| x (r_build ⟨hS10.al.cells, rfl, trivial⟩) <| xl rfl <| o_alloc (us := [.slice none 0 0, .int .i64 0, .slice none 0 0, .slice none 0 0]) rfl fun b19 w11 hs11 hb19 hB19 =>
          xl rfl <| o_stores (us := [sva, .int .i64 m, .slice none 0 0, .slice none 0 0]) hB19 rfl rfl rfl rfl ⟨hS10.al.one, rfl, rfl, rfl, trivial⟩ fun w12 hs12 hB1912 => xe ?_
        have hs1012 : Step [] w10 w12 := hs11.then1 hs12 hb19
        have hl19 := hB1912.lt
        have hz1012 := hs1012.size
        have hB312 := hB310.ext hs1012
        have hS12 := hS10.ext hs1012
        have hN12 := hN10.ext hs1012
        have hCt12 := hCt10.ext hs1012
        -- what stands beside the new automaton
        have hup19 : ∀ b ∈ [b19], b ∈ ([] : List Nat) ∨ w10.heap.size ≤ b := fun b hb => .inr (by simp at hb; omega)
        refine W_seq <| W_seq <| W_region (by rfl) ?_
        refine x r_assign <| xe ?_
        have hS19 : AutA [b19] w12.heap sva svm sve aS := (hS10.up hup19).ext hs1012
        have hN19 : Ints [b19] w12.heap vn nm := (hN10.up hup19).ext hs1012
        have hCt19 : Ctls [b19] w12.heap vl cs := (hCt10.up hup19).ext hs1012
        have hb319 : b3 ≠ b19 := fun e => by have := hB310.lt; omega
        refine W_block <| W_loop (α := Nat × Value × Value) [(20, 22), (24, 26), (151, 238)] (fun z => [(20, .int .i64 z.1)])
          (fun z w' => z.1 ≤ m ∧ CrI w12 b19 sva m z.2.1 z.2.2 (((List.range' 0 z.1).filter (lwMk l nm N)).map (fun c : Nat => (c : Int))) (grid (lwG aS l nm N) aS.al z.1) w' ∧ (grid (lwG aS l nm N) aS.al z.1).length ≤ z.1 * 32) (fun z => m - z.1) (by rfl) (0, .slice none 0 0, .slice none 0 0) ⟨rfl, trivial⟩
          ⟨Nat.zero_le _, ⟨Step.refl _ _, hB1912, own_nil _ _ _ _, own_nil _ _ _ _, Dj.nil _⟩, by simp [grid]⟩ ?_
        rintro ⟨cc, vm, vd⟩ g13 w13 ⟨hcc, hI13, hgl13⟩
        simp only [] at hcc hI13 hgl13
        have hs13' := hI13.st
        refine W_seq <| W_seq <| W_region (by rfl) ?_
        refine x r_move <| x r_move <| x (r_lss rfl rfl) <| xe ?_
        refine W_ifn rfl (fun h153 => ?_) (fun h153 => ?_)
        · refine W_exit ?_
          have hcm : cc = m := by have h154 : ¬ (cc : Int) < (m : Int) := h153; omega
          rw [hcm] at hI13 hgl13
          have hmk := mk_len l nm N m
          have hA13 : AutA [] w13.heap sva vm vd (lwAut aS l nm N m) := by
            have h1 := hS19.al.st hs13'
            refine ⟨h1.up (fun b hb => by cases hb), IntsO.ints (L := []) hI13.m (by show (((List.range' 0 m).filter (lwMk l nm N)).map (fun c : Nat => (c : Int))).length ≤ _; omega) (by simp), EdsO.eds (L := []) hI13.e (by show (grid (lwG aS l nm N) aS.al m).length ≤ _; omega) (by simp)⟩
          have hck := (ckA_zero _).2 hrok
          refine W_seq <| W_region (by rfl) ?_
          refine x (r_loadsB hI13.B rfl rfl) <| xl rfl <| xf <| (Canonical_ok hA13).mono ?_
          rintro r14 w14 ⟨hs14', va14, hr14, _, hg14⟩
          rw [hck] at hr14
          subst hr14
          have hF14 := hg14 hck
          refine Exists.elim (AutF_shape hF14) fun us hus0 => ?_
          have hva := hus0.1
          have husl := hus0.2.1
          have hus := hus0.2.2
          refine x r_move <| x (r_extract rfl rfl) <| x (r_extract rfl rfl) <|
            xl rfl <| o_alloc (us := [.slice none 0 0, .int .i64 0, .slice none 0 0, .slice none 0 0]) rfl fun b27 w15 hs15 hb27 hB27' => xl rfl <| o_stores (us := us) hB27' rfl hva husl rfl hus fun w16 hs16 hB2716 => x r_assign <| xe ?_
          have hs1416 : Step [] w14 w16 := hs15.then1 hs16 hb27
          have hs1316 := hs14'.trans hs1416
          have hb519 : b5 ≠ b19 := fun e => by have := (hs8.trans hs9).size; have := hs10.size; omega
          have hB512 : Blk w12.heap b5 35 [.slice none 0 0, .int .i64 0, .slice none 0 0, .slice none 0 0] := (((hB57.ext hs8).ext hs9).ext hs10).ext hs1012
          have hB516 := (hB512.step hs13' (by simp; exact hb519)).ext hs1316
          have hz712 := ((hs8.trans hs9).trans hs10).size
          refine W_seq <| W_draw (Step [] w16) [(0, true), (1, true), (2, true), (3, false)] Tryd.mixed (by rfl) (by kernel_rfl) (Step.drew _ _) ?_
          refine p (fun _ => r_move) <| pq (fun _ hc => r_loadsB (hB2716.ext hc) rfl husl) <| p (fun _ => r_assign) <| pkl (hl := by kernel_rfl) <| o_stores (us := us) (hB516.ext (Step.drew [] w16)) rfl rfl husl rfl hus fun w17 hs17 hB517 =>
            pe ?_
          have hWall : Step [] w w16 := (hW10.trans hs1012).then (hs13'.trans hs1316) (fun b hb => .inr (by simp at hb; have := hW10.size; omega))
          refine W_ret ⟨[vn, .agg us.toArray], ⟨rfl, ⟨_, rfl, run_loadVar_ag husl (hB517.at (L := []) (by simp)).cells⟩, trivial⟩, (hWall.trans (Step.drew [] w16)).then1 hs17 hzb5, vn, .agg us.toArray, rfl, ?_, ?_⟩
          · have h1 : Ints [b19] w16.heap vn nm := (hN19.st hs13').ext hs1316
            have h2 : Ints [b5] w10.heap vn nm := IntsO.ints (L := [b5]) hn10 (by omega) (fun b hb => by simp at hb; have := (hs8.trans hs9).size; omega)
            have h3 : Ints [b5, b19] w12.heap vn nm := (h2.up (fun b hb => by simp at hb; rcases hb with rfl | rfl; exact .inl (by simp); exact .inr (by omega))).ext hs1012
            have h4 : Ints [b5, b19] w13.heap vn nm := h3.step hs13' (fun b hb => by simp at hb; simp [hb])
            have h5 := (h4.ext hs1316).ext (Step.drew [] w16)
            exact (h5.step hs17 (fun b hb => by simp at hb; simp [hb])).up (fun b hb => by cases hb)
          · have hFF := (hF14.ext hs1416).ext (Step.drew [] w16)
            have hz13 := hW7.size
            rw [hva] at hFF
            have hz12 := hs13'.size
            exact (AutF_st1 hFF (by omega) hs17).mono (by have := hWall.size; have := hW10.size; omega)
        have hccm : cc < m := by have h154 : (cc : Int) < (m : Int) := h153; omega
        have hmk := mk_len l nm N cc
        refine W_skip ?_
        refine W_seq <| W_block <| W_seq <| W_region (by rfl) ?_
        refine x r_assign <| xe ?_
        refine W_seq <| W_seq <| W_region (by rfl) ?_
        refine x r_assign <| xe ?_
        have hB313 := hB312.step hs13' (by simp; exact hb319)
        have hN13 := hN19.st hs13'
        have hCt13 := hCt19.st hs13'
        have hS13 := hS19.st hs13'
        refine W_block <| W_loop (α := Nat × Bool) [(21, 22), (156, 184)] (fun z => [(21, .bool z.2), (22, .int .i64 z.1)]) (fun z w' => z.1 ≤ N ∧ w' = w13 ∧ z.2 = lwMk l nm z.1 cc) (fun z => N - z.1) (by rfl) (0, false) ⟨rfl, rfl, trivial⟩ ⟨Nat.zero_le _, rfl, rfl⟩ ?_
        rintro ⟨y, mb⟩ g18 w18 ⟨hy, hw18, hmb⟩
        simp only [] at hy hmb
        subst hw18
        refine W_seq <| W_seq <| W_region (by rfl) ?_
        refine x r_move <| x (r_fieldB rfl) <| x (r_loadB hB313 rfl rfl) <| x (r_lss rfl rfl) <| xe ?_
        refine W_ifn rfl (fun h159 => ?_) (fun h159 => ?_)
        · refine W_exit ?_
          have hyN : y = N := by have h160 : ¬ (y : Int) < aS.st := h159; omega
          rw [hyN] at hmb
          have hsucc := mk_succ l nm N cc
          rw [← hmb] at hsucc
          refine W_cut (α := Value) [(185, 191)] (fun z => []) (fun z w' => CrI w12 b19 sva m z vd (((List.range' 0 (cc + 1)).filter (lwMk l nm N)).map (fun c : Nat => (c : Int))) (grid (lwG aS l nm N) aS.al cc) w') (by rfl) ?_ ?_
          · refine W_seq <| W_region (by rfl) ?_
            refine x r_move <| xe ?_
            refine W_cond rfl (fun h185 => ?_) (fun h185 => ?_)
            rotate_left
            · refine W_skip ?_
              have h186 : mb = false := h185
              rw [if_neg (by rw [h186]; simp)] at hsucc
              exact ⟨vm, trivial, by rw [hsucc]; exact hI13⟩
            rw [if_pos (show mb = true from h185)] at hsucc
            refine W_region (by rfl) ?_
            refine x (r_fieldB rfl) <| x (r_loadB hI13.B rfl rfl) <| x r_move <| xl rfl <| o_lits (us := [[.int .i64 cc]]) rfl rfl (by decide) (by simp) ⟨rfl, rfl, trivial⟩ fun b189 w19 hs19 hb189 hB189 => ?_
            have hI19 := hI13.ext hs19
            have hz19 := (hs13'.size)
            have hz19' := hs19.size
            refine xl rfl <| o_app (news := [.int .i64 cc]) (L := []) hI19.m rfl rfl rfl (hB189.at (by simp)) (by simp [Value.oneCell']) (by omega) (by omega) fun v20 w20 ho20 hs20 hn20 => ?_
            have hone := (own_arr (L := []) ho20 (by omega) (by simp)).one
            have hB20 := hI19.B.step hs20 (own_notin hI19.m hl19)
            refine x (r_fieldB rfl) <| xl rfl <| o_store (j := 2) hB20 rfl rfl (by simp) hone fun w21 hs21 hB21 => xe ?_
            exact ⟨v20, trivial, by rw [hsucc]; exact hI19.setM hl19 hs20 (IntsO.snoc ho20) hn20 hs21 hB21⟩
          rintro vm' g22 w22 hI22
          have hs22 := hI22.st
          have hB322 := hB312.step hs22 (by simp; exact hb319)
          have hS22 := hS19.st hs22
          refine W_seq <| W_region (by rfl) ?_
          refine x (r_fieldB rfl) <| x (r_loadB hB322 rfl rfl) <| x (r_lenA hS22.al rfl) <| x r_move <| xe ?_
          refine W_block <| W_loop (α := Nat × Value) [(24, 26), (195, 238)] (fun z => [(195, .int .i64 z.1)])
            (fun z w' => z.1 ≤ aS.al.length ∧ CrI w12 b19 sva m vm' z.2 (((List.range' 0 (cc + 1)).filter (lwMk l nm N)).map (fun c : Nat => (c : Int))) (grid (lwG aS l nm N) aS.al cc ++ (aS.al.take z.1).filterMap (lwG aS l nm N cc)) w') (fun z => aS.al.length - z.1) (by rfl) (0, vd) ⟨rfl, trivial⟩
            ⟨Nat.zero_le _, by simpa using hI22⟩ ?_
          rintro ⟨e0, vd'⟩ g23 w23 ⟨he0, hI23⟩
          simp only [] at he0 hI23
          have hs23 := hI23.st
          have hS23 := hS19.st hs23
          have hN23 := hN19.st hs23
          have hCt23 := hCt19.st hs23
          have hB323 := hB312.step hs23 (by simp; exact hb319)
          have hfml : ((aS.al.take e0).filterMap (lwG aS l nm N cc)).length ≤ e0 := Nat.le_trans (List.length_filterMap_le _ _) (by simp; omega)
          refine W_seq <| W_region (by rfl) ?_
          refine x (r_lss rfl rfl) <| xe ?_
          refine W_seq <| W_ifn rfl (fun h196 => ?_) (fun h196 => ?_)
          · refine W_exit ?_
            have hee : aS.al.length ≤ e0 := by have h197 : ¬ (e0 : Int) < (aS.al.length : Int) := h196; omega
            rw [List.take_of_length_le hee, ← grid_succ] at hI23
            have hgl : (grid (lwG aS l nm N) aS.al (cc + 1)).length ≤ (cc + 1) * 32 := by rw [grid_succ, List.length_append]; rw [List.take_of_length_le hee] at hfml; omega
            refine W_region (by rfl) ?_
            refine x r_move <| x (r_add rfl rfl ⟨by omega, by omega⟩) <| x r_assign <| xe ?_
            exact ⟨(cc + 1, vm', vd'), by simp only []; omega, ⟨rfl, trivial⟩, hccm, hI23, hgl⟩
          have hlt : e0 < aS.al.length := by have h197 : (e0 : Int) < (aS.al.length : Int) := h196; omega
          have hfm := fm_take (g := lwG aS l nm N cc) hlt
          refine exE (aS.al[e0]'hlt) fun e he => ?_
          rw [he] at hfm
          refine W_skip ?_
          refine W_seq <| W_block <| W_seq <| W_region (by rfl) ?_
          refine xii hS23.al rfl rfl hlt fun a197 h197 => ?_
          rw [he] at h197
          refine x (r_loadA h197 rfl) <| x r_assign <| xe ?_
          refine W_seq <| W_region (by rfl) ?_
          refine x r_assign <| xe ?_
          refine W_seq <| W_seq <| W_region (by rfl) ?_
          refine x r_assign <| xe ?_
          refine W_block <| W_loop (α := Nat × Int) [(25, 26), (199, 226)] (fun z => [(25, .int .i64 z.2), (26, .int .i64 z.1)]) (fun z w' => z.1 ≤ N ∧ Step [] w23 w' ∧ z.2 = lwTo aS l nm z.1 cc e) (fun z => N - z.1) (by rfl) (0, -1) ⟨rfl, rfl, trivial⟩ ⟨Nat.zero_le _, Step.refl _ _, rfl⟩ ?_
          rintro ⟨y, tt⟩ g24 w24 ⟨hy24, hs24, htt⟩
          simp only [] at hy24 htt
          refine W_seq <| W_seq <| W_region (by rfl) ?_
          refine x r_move <| x (r_fieldB rfl) <| x (r_loadB (hB323.ext hs24) rfl rfl) <| x (r_lss rfl rfl) <| xe ?_
          refine W_ifn rfl (fun h202 => ?_) (fun h202 => ?_)
          · refine W_exit ?_
            have hyN' : y = N := by have h203 : ¬ (y : Int) < aS.st := h202; omega
            rw [hyN'] at htt
            have hI24 := hI23.ext hs24
            refine W_seq <| W_region (by rfl) ?_
            refine x r_move <| x (r_geq rfl rfl) <| xe ?_
            refine W_ifn rfl (fun h228 => ?_) (fun h228 => ?_)
            · have hgn : lwG aS l nm N cc e = none := by unfold lwG; rw [← htt]; exact if_neg h228
              rw [hgn] at hfm
              have hfm' : (aS.al.take (e0 + 1)).filterMap (lwG aS l nm N cc) = (aS.al.take e0).filterMap (lwG aS l nm N cc) := hfm
              refine W_skip ?_
              refine W_region (by rfl) ?_
              refine x (r_add rfl rfl ⟨by omega, by omega⟩) <| x r_move <| xe ?_
              exact ⟨(e0 + 1, vd'), by simp only []; omega, ⟨rfl, trivial⟩, hlt, by simp only []; rw [hfm']; exact hI24⟩
            have hgs : lwG aS l nm N cc e = some ((cc : Int), e, tt) := by unfold lwG; rw [← htt]; exact if_pos h228
            rw [hgs] at hfm
            have hfm' : (aS.al.take (e0 + 1)).filterMap (lwG aS l nm N cc) = (aS.al.take e0).filterMap (lwG aS l nm N cc) ++ [((cc : Int), e, tt)] := hfm
            refine W_region (by rfl) ?_
            refine x (r_fieldB rfl) <| x (r_loadB hI24.B rfl rfl) <| x r_move <| x r_move <| x r_move <| x (r_build ⟨rfl, rfl, rfl, trivial⟩) <| xl rfl <| o_lits (us := [edCells ((cc : Int), e, tt)]) rfl rfl (by decide) (by exact (by decide : 1 * 3 ≤ 1000000)) ⟨rfl, rfl, trivial⟩ fun b235 w25 hs25 hb235 hB235 => ?_
            have hI25 := hI24.ext hs25
            have hz25 := hI25.st.size
            have hel : (grid (lwG aS l nm N) aS.al cc ++ (aS.al.take e0).filterMap (lwG aS l nm N cc)).length ≤ 1000 := by rw [List.length_append]; omega
            refine xl rfl <| o_app (news := edCells ((cc : Int), e, tt)) (L := []) (m := 1) hI25.e rfl rfl rfl (hB235.at (by simp)) (by simp [edCells, Value.oneCell']) (by omega) (by omega) fun v26 w26 ho26 hs26 hn26 => ?_
            have hone := (own_arr (L := []) ho26 (by omega) (by simp)).one
            have hB26 := hI25.B.step hs26 (own_notin hI25.e hl19)
            refine x (r_fieldB rfl) <| xl rfl <| o_store (j := 3) hB26 rfl rfl (by simp) hone fun w27 hs27 hB27' => xe ?_
            refine W_region (by rfl) ?_
            refine x (r_add rfl rfl ⟨by omega, by omega⟩) <| x r_move <| xe ?_
            exact ⟨(e0 + 1, v26), by simp only []; omega, ⟨rfl, trivial⟩, hlt, by simp only []; rw [hfm', ← List.append_assoc]; exact hI25.setE hl19 hs26 (EdsO.snoc ho26) hn26 hs27 hB27'⟩
          have hyN : y < N := by have h203 : (y : Int) < aS.st := h202; omega
          have hto := lwTo_succ aS l nm y cc e
          unfold lwTo1 at hto
          rw [← htt] at hto
          have hyn : y < nm.length := by omega
          have hyc : y < cs.length := by omega
          have hN24 := hN23.ext hs24
          have hCt24 := hCt23.ext hs24
          have hay := hCt24.each _ (List.getElem_mem hyc)
          refine exE (cs[y]'hyc) fun cy hcy => ?_
          rw [hcy] at hay
          have ely : lget l y = cy.c := by rw [← hcy]; exact lget_cv hcs8 hyc
          rw [ely] at hto
          have hnxy := hnx y hyN
          rw [ely] at hnxy
          refine W_skip ?_
          refine W_seq <| W_block <| W_cut (α := Unit) [(205, 219)] (fun z => [(219, .bool (decide (cget nm y = (cc : Int) ∧ e ∈ cy.c.en)))]) (fun z w' => w' = w24) (by rfl) ?_ ?_
          · refine W_region (by rfl) ?_
            refine x r_move <| x r_move <| xic (i := y) hN24 rfl rfl hyn fun a207 h207 => x (r_loadA h207 rfl) <| x r_move <| xb (r_eql rfl rfl) (fun h210 => ?_) (fun h210 => ?_)
            · refine x r_move <| x r_move <| x r_move <| xig (g := cvCells) (i := y) cv_len hCt24.arr rfl rfl hyc fun a214 h214 => ?_
              rw [hcy] at h214
              refine x (r_field rfl) <| x (r_loadA (h214.fld 0 _ rfl) rfl) <|
                x r_move <| xl rfl <| xf <| (has30_ok hay.en e).mono ?_
              rintro r28 w28 ⟨rfl, rfl⟩
              refine x (r_pick rfl) <| xe ?_
              exact ⟨(), ⟨congrArg Value.bool (decide_eq_decide.2 ⟨fun a => ⟨h210, a⟩, fun a => a.2⟩), trivial⟩, rfl⟩
            refine x r_move <| xs rfl <| xs rfl <| xs rfl <| xs rfl <| xs rfl <| xs rfl <| xs rfl <| x (r_pick rfl) <| xe ?_
            exact ⟨(), ⟨congrArg Value.bool (decide_eq_false (fun a => h210 a.1)).symm, trivial⟩, rfl⟩
          rintro z29 g29 w29 rfl
          refine W_ifn rfl (fun h219 => ?_) (fun h219 => ?_)
          · rw [if_neg h219] at hto
            refine W_skip ?_
            refine W_region (by rfl) ?_
            refine x r_move <| x (r_add rfl rfl ⟨by omega, by omega⟩) <| x r_assign <| xe ?_
            exact ⟨(y + 1, tt), by simp only []; omega, ⟨rfl, rfl, trivial⟩, hyN, hs24, hto.symm⟩
          rw [if_pos h219] at hto
          have hnn := hnxy e h219.2
          refine exN hnn.1 fun u hu => ?_
          rw [hu] at hnn
          rw [hu, Int.toNat_natCast] at hto
          have hun : u < nm.length := by omega
          refine W_region (by rfl) ?_
          refine x r_move <| x (r_loadsB (hB323.ext hs24) rfl rfl) <| x r_move <| x r_move <| xl rfl <| xf <| (next30_ok ((hS23.ed).ext hs24) y e aS.st).mono ?_
          rintro r30 w30 ⟨hr30, hs30⟩
          rw [hu] at hr30
          subst hr30
          refine xic (i := u) (hN24.ext hs30) rfl rfl hun fun a225 h225 =>
            x (r_loadA h225 rfl) <| x r_assign <| xe ?_
          refine W_region (by rfl) ?_
          refine x r_move <| x (r_add rfl rfl ⟨by omega, by omega⟩) <| x r_assign <| xe ?_
          exact ⟨(y + 1, cget nm u), by simp only []; omega, ⟨rfl, rfl, trivial⟩, hyN, hs24.trans hs30, hto.symm⟩
        have hyN : y < N := by have h160 : (y : Int) < aS.st := h159; omega
        have hms := lwMk_succ l nm y cc
        rw [← hmb] at hms
        unfold lwMk1 at hms
        have hyn : y < nm.length := by omega
        have hyc : y < cs.length := by omega
        refine exE (cs[y]'hyc) fun cy hcy => ?_
        have ely : lget l y = cy.c := by rw [← hcy]; exact lget_cv hcs8 hyc
        rw [ely] at hms
        refine W_skip ?_
        refine W_seq <| W_block <| W_region (by rfl) ?_
        refine Or.elim (boolD mb) (fun hmt => ?_) (fun hmf => ?_)
        · subst hmt
          rw [Bool.true_or] at hms
          refine x r_move <| x r_move <| xs rfl <| xs rfl <| xs rfl <| xs rfl <| xs rfl <| xs rfl <| xs rfl <| xs rfl <| xs rfl <| xs rfl <| xs rfl <| xs rfl <| xs rfl <| xs rfl <| xs rfl <| xs rfl <| xs rfl <| xs rfl <| xs rfl <| xs rfl <| x (r_pick rfl) <| x r_assign <| xe ?_
          refine W_region (by rfl) ?_
          refine x r_move <| x (r_add rfl rfl ⟨by omega, by omega⟩) <| x r_assign <| xe ?_
          exact ⟨(y + 1, true), by simp only []; omega, ⟨rfl, rfl, trivial⟩, hyN, rfl, hms.symm⟩
        subst hmf
        rw [Bool.false_or] at hms
        refine x r_move <| x r_move <| x r_move <| x r_move <| xic (i := y) hN13 rfl rfl hyn fun a166 h166 => x (r_loadA h166 rfl) <|
          x r_move <| xb (r_eql rfl rfl) (fun h169 => ?_) (fun h169 => ?_)
        · rw [decide_eq_true h169, Bool.true_and] at hms
          refine x r_move <| x r_move <| x r_move <| xig (g := cvCells) (i := y) cv_len hCt13.arr rfl rfl hyc fun a173 h173 => ?_
          rw [hcy] at h173
          refine x (r_field rfl) <| ?_
          refine Or.elim (boolD cy.c.mk') (fun hmt => ?_) (fun hmf => ?_)
          · rw [hmt, Bool.true_and] at hms
            refine x (r_loadA (h173.fld 2 (.bool true) (congrArg (fun b => some (Value.bool b)) hmt)) rfl) <| x (r_pick rfl) <|
              x r_move <| x r_move <| x r_move <| xig (g := cvCells) (i := y) cv_len hCt13.arr rfl rfl hyc fun a180 h180 => ?_
            rw [hcy] at h180
            refine x (r_field rfl) <|
              x (r_loadA (h180.fld 3 _ rfl) rfl) <| x (r_pick rfl) <| x (r_pick rfl) <| x r_assign <| xe ?_
            refine W_region (by rfl) ?_
            refine x r_move <| x (r_add rfl rfl ⟨by omega, by omega⟩) <| x r_assign <| xe ?_
            exact ⟨(y + 1, cy.c.ps), by simp only []; omega, ⟨rfl, rfl, trivial⟩, hyN, rfl, hms.symm⟩
          · rw [hmf, Bool.false_and] at hms
            refine x (r_loadA (h173.fld 2 (.bool false) (congrArg (fun b => some (Value.bool b)) hmf)) rfl) <| x (r_pick rfl) <| x r_move <| xs rfl <| xs rfl <| xs rfl <| xs rfl <| xs rfl <| x (r_pick rfl) <| x (r_pick rfl) <| x r_assign <| xe ?_
            refine W_region (by rfl) ?_
            refine x r_move <| x (r_add rfl rfl ⟨by omega, by omega⟩) <| x r_assign <| xe ?_
            exact ⟨(y + 1, false), by simp only []; omega, ⟨rfl, rfl, trivial⟩, hyN, rfl, hms.symm⟩
        rw [decide_eq_false h169, Bool.false_and, Bool.false_and] at hms
        refine x r_move <| xs rfl <| xs rfl <| xs rfl <| xs rfl <| xs rfl <| x (r_pick rfl) <| x r_move <| xs rfl <| xs rfl <| xs rfl <| xs rfl <| xs rfl <| x (r_pick rfl) <|
          x (r_pick rfl) <| x r_assign <| xe ?_
        refine W_region (by rfl) ?_
        refine x r_move <| x (r_add rfl rfl ⟨by omega, by omega⟩) <| x r_assign <| xe ?_
        exact ⟨(y + 1, false), by simp only []; omega, ⟨rfl, rfl, trivial⟩, hyN, rfl, hms.symm⟩
      have hqN : q < N := by have h113 : (q : Int) < aS.st := h112; omega
      have hqC : q < C.length := by omega
      have hns := lwN_succ C q
      rw [hr10] at hns
      unfold lwN at hns
      have hC10 := hC9.ext hs10
      have hge10 := own_ge hn10
      have hLq := hls q hqN
      refine W_skip ?_
      refine W_seq <| W_block <| W_block <| W_seq <| W_region (by rfl) ?_
      refine x r_move <| x r_move <| xic (i := q) hC10 rfl rfl hqC fun a128 h128 => x (r_loadA h128 rfl) <| x (r_lss rfl rfl) <| x r_assign <| xe ?_
      refine W_if rfl (fun h125 => ?_) (fun h125 => ?_)
      · rw [if_pos h125] at hns
        refine W_region (by rfl) ?_
        refine x r_move <| xl rfl <| o_lits (us := [[.int .i64 (-1)]]) rfl rfl (by decide) (by simp) ⟨rfl, rfl, trivial⟩ fun b132 w31 hs31 hb132 hB132 => ?_
        have hz31 := (hs10.trans hs31).size
        refine xl rfl <| o_app (news := [.int .i64 (-1)]) (L := []) (own_ext hn10 hs31) rfl rfl rfl (hB132.at (by simp)) (by simp [Value.oneCell']) (by omega) (by omega) fun v32 w32 ho32 hs32 hn32 =>
          x r_assign <| xe ?_
        refine W_region (by rfl) ?_
        refine x r_move <| x (r_add rfl rfl ⟨by omega, by omega⟩) <| x r_assign <| xe ?_
        exact ⟨(q + 1, v32, nm ++ [-1], m), by simp only []; omega, ⟨rfl, rfl, rfl, trivial⟩, hqN, by simp only []; omega, (hs10.trans hs31).then hs32 (fun b hb => .inr (hge10 b hb).1), IntsO.snoc ho32, by simp [hnl], hns⟩
      rw [if_neg h125] at hns
      refine W_seq <| W_region (by rfl) ?_
      refine x r_move <| x r_move <| xic (i := q) hC10 rfl rfl hqC fun a137 h137 => x (r_loadA h137 rfl) <| x r_move <| x (r_eql rfl rfl) <| x r_assign <|
        xe ?_
      refine W_if rfl (fun h134 => ?_) (fun h134 => ?_)
      · rw [if_pos h134] at hns
        refine W_region (by rfl) ?_
        refine x r_move <| x r_move <| xl rfl <| o_lits (us := [[.int .i64 m]]) rfl rfl (by decide) (by simp) ⟨rfl, rfl, trivial⟩ fun b143 w33 hs33 hb143 hB143 => ?_
        have hz33 := (hs10.trans hs33).size
        refine xl rfl <| o_app (news := [.int .i64 m]) (L := []) (own_ext hn10 hs33) rfl rfl rfl (hB143.at (by simp)) (by simp [Value.oneCell']) (by omega) (by omega) fun v34 w34 ho34 hs34 hn34 =>
          x r_move <| x (r_add (a := (m : Int)) (b := 1) rfl rfl ⟨by omega, by omega⟩) <| x r_assign <| x r_assign <| xe ?_
        refine W_region (by rfl) ?_
        refine x r_move <| x (r_add rfl rfl ⟨by omega, by omega⟩) <| x r_assign <| xe ?_
        exact ⟨(q + 1, v34, nm ++ [(m : Int)], m + 1), by simp only []; omega, ⟨rfl, rfl, rfl, trivial⟩, hqN, by simp only []; omega, (hs10.trans hs33).then hs34 (fun b hb => .inr (hge10 b hb).1), IntsO.snoc ho34, by simp [hnl], hns⟩
      rw [if_neg h134] at hns
      have hc0 : 0 ≤ cget C q := by have h126 : ¬ cget C q < 0 := h125; omega
      have hLq1 := (hLq hc0).1
      have hne : cget C q ≠ (q : Int) := h134
      refine exN hc0 fun u hu => ?_
      have huq : u < nm.length := by omega
      rw [hu, Int.toNat_natCast] at hns
      have hI10 := IntsO.ints (L := []) hn10 (by omega) (by simp)
      refine W_region (by rfl) ?_
      refine x r_move <| x r_move <| x r_move <| x r_move <| xic (i := q) hC10 rfl rfl hqC fun a119 h119 => ?_
      rw [hu] at h119
      refine x (r_loadA h119 rfl) <| xic (i := u) hI10 rfl rfl huq fun a121 h121 =>
        x (r_loadA h121 rfl) <| xl rfl <| o_lits (us := [[.int .i64 (cget nm u)]]) rfl rfl (by decide) (by simp) ⟨rfl, rfl, trivial⟩ fun b123 w35 hs35 hb123 hB123 => ?_
      have hz35 := (hs10.trans hs35).size
      refine xl rfl <| o_app (news := [.int .i64 (cget nm u)]) (L := []) (own_ext hn10 hs35) rfl rfl rfl (hB123.at (by simp)) (by simp [Value.oneCell']) (by omega) (by omega) fun v36 w36 ho36 hs36 hn36 =>
        x r_assign <| xe ?_
      refine W_region (by rfl) ?_
      refine x r_move <| x (r_add rfl rfl ⟨by omega, by omega⟩) <| x r_assign <| xe ?_
      exact ⟨(q + 1, v36, nm ++ [cget nm u], m), by simp only []; omega, ⟨rfl, rfl, rfl, trivial⟩, hqN, by simp only []; omega, (hs10.trans hs35).then hs36 (fun b hb => .inr (hge10 b hb).1), IntsO.snoc ho36, by simp [hnl], hns⟩
    have hiN : i < N := by have h67 : (i : Int) < aS.st := h66; omega
    rw [rng_cons hiN, List.foldl_cons] at hr9
    refine exE (lwTX aS l N c9 i) fun Z hZ => ?_
    rw [hZ] at hr9
    unfold lwTX at hZ
    refine W_skip ?_
    refine W_seq <| W_block <| W_seq <| W_region (by rfl) ?_
    refine x r_move <| x (r_add rfl rfl ⟨by omega, by omega⟩) <| x r_assign <| xe ?_
    refine W_block <| W_loop (α := Nat × Value × List Int) [(10, 10), (15, 15), (71, 108)] (fun z => [(10, z.2.1), (15, .int .i64 z.1)])
      (fun z w' => z.1 ≤ N ∧ i + 1 ≤ z.1 ∧ Step [] w8 w' ∧ Ints [] w'.heap z.2.1 z.2.2 ∧ z.2.2.length = N ∧ (List.range' z.1 (N - z.1)).foldl (fun c y => lwTry aS l c i y) z.2.2 = Z) (fun z => N - z.1) (by rfl) (i + 1, vc9, c9) ⟨rfl, rfl, trivial⟩
      ⟨hiN, Nat.le_refl _, hs9, hC9, hl9, hZ⟩ ?_
    rintro ⟨j, vc37, c37⟩ g37 w37 ⟨hj, hij, hs37', hC37, hl37, hr37⟩
    simp only [] at hj hij hC37 hl37 hr37
    have hB337 := hB38.ext hs37'
    refine W_seq <| W_seq <| W_region (by rfl) ?_
    refine x r_move <| x (r_fieldB rfl) <| x (r_loadB hB337 rfl rfl) <| x (r_lss rfl rfl) <| xe ?_
    refine W_ifn rfl (fun h74 => ?_) (fun h74 => ?_)
    · refine W_exit ?_
      have hjN : N ≤ j := by have h75 : ¬ (j : Int) < aS.st := h74; omega
      rw [rng_nil hjN] at hr37
      have hr37' : c37 = Z := hr37
      rw [← hr37'] at hr9
      refine W_region (by rfl) ?_
      refine x r_move <| x (r_add rfl rfl ⟨by omega, by omega⟩) <| x r_assign <| xe ?_
      exact ⟨(i + 1, vc37, c37), by simp only []; omega, ⟨rfl, rfl, trivial⟩, hiN, hs37', hC37, hl37, hr9⟩
    have hjN : j < N := by have h75 : (j : Int) < aS.st := h74; omega
    rw [rng_cons hjN, List.foldl_cons] at hr37
    unfold lwTry at hr37
    have hi37 : i < c37.length := by omega
    have hj37 : j < c37.length := by omega
    refine W_skip ?_
    refine W_seq <| W_block <| W_cut (α := Unit) [(77, 99)] (fun z => [(99, .bool (decide (0 ≤ cget c37 i ∧ 0 ≤ cget c37 j ∧ cget c37 i ≠ cget c37 j)))]) (fun z w' => Step [] w37 w') (by rfl) ?_ ?_
    · refine W_draw (Step [] w37) [(0, true), (1, true), (2, true), (3, true), (4, true), (5, true), (6, true), (7, true), (8, true), (9, true), (10, true), (11, true), (12, true), (13, true), (14, true), (15, true), (16, true), (17, true), (18, true), (19, true), (20, true), (21, true), (22, true)] Tryd.mixed (by rfl) (by kernel_rfl) (Step.drew _ _) ?_
      refine p (fun _ => r_move) <| p (fun _ => r_move) <| pic (i := i) rfl hC37 rfl rfl hi37 fun a79 h79 => pq (fun _ hc => r_loadA (h79.ext hc) rfl) <|
        pb (fun _ => r_geq rfl rfl) (fun h81 => ?_) (fun h81 => ?_)
      · refine p (fun _ => r_move) <| p (fun _ => r_move) <| p (fun _ => r_move) <| pic (i := j) rfl hC37 rfl rfl hj37 fun a85 h85 => pq (fun _ hc => r_loadA (h85.ext hc) rfl) <|
          pb (fun _ => r_geq rfl rfl) (fun h87 => ?_) (fun h87 => ?_)
        · refine p (fun _ => r_pick rfl) <| p (fun _ => r_move) <| p (fun _ => r_move) <| p (fun _ => r_move) <| pic (i := i) rfl hC37 rfl rfl hi37 fun a92 h92 =>
            pq (fun _ hc => r_loadA (h92.ext hc) rfl) <| p (fun _ => r_move) <| p (fun _ => r_move) <| pic (i := j) rfl hC37 rfl rfl hj37 fun a96 h96 => pq (fun _ hc => r_loadA (h96.ext hc) rfl) <|
            p (fun _ => r_neq rfl rfl) <| p (fun _ => r_pick rfl) <| pe ?_
          exact ⟨(), ⟨congrArg Value.bool (decide_eq_decide.2 ⟨fun a => ⟨h81, h87, a⟩, fun a => a.2.2⟩), trivial⟩, Step.drew _ _⟩
        refine p (fun _ => r_pick rfl) <| p (fun _ => r_move) <| ps <| ps <| ps <| ps <| ps <| ps <| ps <| ps <| ps <| p (fun _ => r_pick rfl) <| pe ?_
        exact ⟨(), ⟨congrArg Value.bool (decide_eq_false (fun a => h87 a.2.1)).symm, trivial⟩, Step.drew _ _⟩
      refine p (fun _ => r_move) <| ps <| ps <| ps <| ps <| ps <| p (fun _ => r_pick rfl) <| p (fun _ => r_move) <| ps <| ps <| ps <| ps <| ps <| ps <| ps <| ps <| ps <| p (fun _ => r_pick rfl) <|
        pe ?_
      exact ⟨(), ⟨congrArg Value.bool (decide_eq_false (fun a => h81 a.1)).symm, trivial⟩, Step.drew _ _⟩
    rintro z38 g38 w38 hs38
    refine W_ifn rfl (fun h99 => ?_) (fun h99 => ?_)
    · rw [if_neg h99] at hr37
      refine W_skip ?_
      refine W_region (by rfl) ?_
      refine x r_move <| x (r_add rfl rfl ⟨by omega, by omega⟩) <| x r_assign <| xe ?_
      exact ⟨(j + 1, vc37, c37), by simp only []; omega, ⟨rfl, rfl, trivial⟩, hjN, by simp only []; omega, hs37'.trans hs38, hC37.ext hs38, hl37, hr37⟩
    rw [if_pos h99] at hr37
    have hs838 := hs37'.trans hs38
    refine W_region (by rfl) ?_
    refine x (r_loadsB (hB38.ext hs838) rfl rfl) <| x r_move <| x r_move <| x r_move <| x r_move <| xl rfl <| xf <| (lmerge_ok (aS := aS) (st := aS.st) (i := i) (j := j) ((hS7.ext hs8).ext hs838).ed (hCt8.ext hs838) (hC37.ext hs38) hl37 hcl8 (by omega) hiN hjN hnx').mono ?_
    rintro r39 w39 ⟨hs39, v39, b39, rfl, hC39⟩
    rw [hcs8] at hC39
    refine x r_move <| x (r_extract rfl rfl) <| x (r_extract rfl rfl) <| x r_assign <| xe ?_
    refine W_region (by rfl) ?_
    refine x r_move <| x (r_add rfl rfl ⟨by omega, by omega⟩) <| x r_assign <| xe ?_
    exact ⟨(j + 1, v39, (lwMerge aS l c37 i j).1), by simp only []; omega, ⟨rfl, rfl, trivial⟩, hjN, by simp only []; omega, hs838.trans hs39, hC39, by simp only []; rw [lwMerge_len]; exact hl37, hr37⟩
  have hkN : k < N := by have h41 : (k : Int) < aS.st := h40; omega
  refine W_skip ?_
  refine W_seq <| W_block <| W_seq <| W_region (by rfl) ?_
  refine x (r_loadsB (hB27.ext hs8) rfl rfl) <| x (r_loadsB hB38 rfl rfl) <| x r_move <| x r_move <| xl rfl <| xf <| (control_ok (hP7.ext hs8) (hS7.ext hs8) hal (hT7.ext hs8) hqv hqsl k).mono ?_
  rintro r40 w40 ⟨hs40, cv, oc, rfl, hce, hcvA, hoc⟩
  rw [hqe] at hce hoc
  have hlL := own_lt hL8.l
  have hlC := own_lt hL8.c
  have hcv := hcvA (ob vl ++ ob vc) (fun b hb => by rcases List.mem_append.1 hb with h | h; exact hlL b h; exact hlC b h)
  refine x r_move <| x (r_extract rfl rfl) <| x (r_extract rfl rfl) <| xl rfl <| o_alloc (us := [.slice none 0 0, .slice none 0 0, .bool false, .bool false]) rfl fun b12 w41 hs41 hb12 hB12 => xl rfl <| o_stores (us := cvCells cv) hB12 rfl rfl rfl rfl ⟨hcv.en.one, hcv.dis.one, rfl, rfl, trivial⟩ fun w42 hs42 hB1242 =>
    x r_assign <| xe ?_
  have hs4042 : Step [] w40 w42 := hs41.then1 hs42 hb12
  have hL42 := (hL8.ext hs40).ext hs4042
  have hcv42 := hcv.ext hs4042
  refine W_seq <| W_region (by rfl) ?_
  refine x r_move <| x (r_loadsB hB1242 rfl rfl) <| xl rfl <| o_lits (us := [cvCells cv]) rfl rfl (by decide) (by exact (by decide : 1 * 4 ≤ 1000000)) ⟨rfl, rfl, trivial⟩ fun b53 w43 hs43 hb53 hB53 => ?_
  have hL43 := hL42.ext hs43
  have hz43 := hL43.st.size
  refine xl rfl <| o_app (news := cvCells cv) (L := []) (m := 1) hL43.l rfl rfl rfl (hB53.at (by simp)) (ones_cv hcv42) (by omega) (by omega) fun vl44 w44 ho44 hs44 hn44 =>
    x r_assign <| xe ?_
  have hL44 := hL43.setL hs44 ho44 hn44 (hcv42.ext hs43)
  have hz44 := hL44.st.size
  have hcs44 : (cs ++ [cv]).map (·.c) = (List.range' 0 (k + 1)).map fun x : Nat => ctlD aP aS (opQ aP aS) x := by rw [ctlD_succ, List.map_append, hcs8, List.map_cons, List.map_nil, hce]
  have hlen44 := lw0_len k (opQ aP aS)
  have hsucc := lw0_succ k (opQ aP aS)
  have hoc' : oc = occB (opQ aP aS) k := hoc
  refine W_seq <| W_region (by rfl) ?_
  refine x r_move <| xe ?_
  refine W_cond rfl (fun h55 => ?_) (fun h55 => ?_)
  rotate_left
  · rw [← hoc', if_neg (by rw [h55]; simp)] at hsucc
    refine W_region (by rfl) ?_
    refine x r_move <| xl rfl <| o_lits (us := [[.int .i64 (-1)]]) rfl rfl (by decide) (by simp) ⟨rfl, rfl, trivial⟩ fun b61 w45 hs45 hb61 hB61 => ?_
    have hL45 := hL44.ext hs45
    have hz45 := hL45.st.size
    refine xl rfl <| o_app (news := [.int .i64 (-1)]) (L := []) hL45.c rfl rfl rfl (hB61.at (by simp)) (by simp [Value.oneCell']) (by omega) (by omega) fun v46 w46 ho46 hs46 hn46 =>
      x r_assign <| xe ?_
    refine W_region (by rfl) ?_
    refine x r_move <| x (r_add rfl rfl ⟨by omega, by omega⟩) <| x r_assign <| xe ?_
    refine ⟨(k + 1, vl44, v46, cs ++ [cv]), by simp only []; omega, ⟨rfl, rfl, rfl, trivial⟩, hkN, ?_, hcs44⟩
    simp only []
    rw [hsucc]
    exact hL45.setC hs46 (IntsO.snoc ho46) hn46
  rw [← hoc', if_pos h55] at hsucc
  refine W_region (by rfl) ?_
  refine x r_move <| x r_move <| xl rfl <| o_lits (us := [[.int .i64 k]]) rfl rfl (by decide) (by simp) ⟨rfl, rfl, trivial⟩ fun b58 w47 hs47 hb58 hB58 => ?_
  have hL47 := hL44.ext hs47
  have hz47 := hL47.st.size
  refine xl rfl <| o_app (news := [.int .i64 k]) (L := []) hL47.c rfl rfl rfl (hB58.at (by simp)) (by simp [Value.oneCell']) (by omega) (by omega) fun v48 w48 ho48 hs48 hn48 =>
    x r_assign <| xe ?_
  refine W_region (by rfl) ?_
  refine x r_move <| x (r_add rfl rfl ⟨by omega, by omega⟩) <| x r_assign <| xe ?_
  refine ⟨(k + 1, vl44, v48, cs ++ [cv]), by simp only []; omega, ⟨rfl, rfl, rfl, trivial⟩, hkN, ?_, hcs44⟩
  simp only []
  rw [hsucc]
  exact hL47.setC hs48 (IntsO.snoc ho48) hn48
end Go.Proofs.YtfhgnlkdcdlblaaDoor
/- The function SupervisorReduces returns true. -/
namespace Go.Proofs.YtfhgnlkdcdlblaaDoor
open Go.Lg

set_option maxHeartbeats 4000000 in
theorem lawReduces_ok {ns : List Nat} (hn : ns.length = 57) (hns : ∀ n ∈ ns, n < 256) (w : World) :
    Ret Tryd.prog 3 [.agg (bys ns).toArray] w fun r w' => r = .bool true ∧ Step [] w w' := by
  refine Ret.of_W Tryd.func3 rfl Tryd.ntmps3 Tryd.results3 (by simp) ?_
  refine W_seq <| W_region (by rfl) ?_
  refine xl rfl <| o_box (us := bys ns) rfl fun b1 w1 hs1 hb1 hB1 => x r_assign <| xe ?_
  refine W_seq <| W_seq <| W_region (by rfl) ?_
  refine xl rfl <| xf <| (known_ok w1).mono ?_
  rintro r2 w2 ⟨rfl, hs2⟩
  refine x (r_not rfl) <| xe ?_
  refine W_false rfl ?_
  refine W_skip ?_
  refine W_seq <| W_region (by rfl) ?_
  refine x (r_loadsB (hB1.ext hs2) rfl (by simp [bys]; exact hn)) <| xl rfl <| xf <| (make26_ok hn hns).mono ?_
  rintro r3 w3 ⟨hs3, vp, vs, vu, aP, aS, u, rfl, hFP, hFS, hPb, huo⟩
  obtain ⟨pva, pvm, pve, rfl, hPA⟩ := hFP
  obtain ⟨sva, svm, sve, rfl, hSA⟩ := hFS
  have hP0 := hPA [] (by simp)
  have hS0 := hSA [] (by simp)
  have hE0 := hPb.opE0
  have hR := red_law hE0
  have hcls := hR.cls
  have hrd0 := hR.e0
  have hrdA := hR.eq
  obtain ⟨o1, o2, _, hv, hl⟩ := opE_zero hE0
  have hW3 := (hs1.trans hs2).trans hs3
  refine x r_move <| x (r_extract rfl rfl) <| x (r_extract rfl rfl) <|
    x (r_extract rfl rfl) <| xl rfl <| o_alloc (us := [.slice none 0 0, .int .i64 0, .slice none 0 0, .slice none 0 0]) rfl fun b3 w4 hs4 hb3 hB3 => xl rfl <| o_alloc (us := [.slice none 0 0, .int .i64 0, .slice none 0 0, .slice none 0 0]) rfl fun b4 w5 hs5 hb4 hB4 =>
    xl rfl <| o_stores (us := [pva, .int .i64 aP.st, pvm, pve]) (hB3.ext hs5) rfl rfl rfl rfl ⟨hP0.al.one, rfl, hP0.mr.one, hP0.ed.one, trivial⟩ fun w6 hs6 hB36 => ?_
  have hl3 := hB3.lt
  have hz4 := hs4.size
  have hB46 := hB4.step hs6 (by simp; omega)
  refine xl rfl <| o_stores (us := [sva, .int .i64 aS.st, svm, sve]) hB46 rfl rfl rfl rfl ⟨hS0.al.one, rfl, hS0.mr.one, hS0.ed.one, trivial⟩ fun w7 hs7 hB47 => x r_assign <| xe ?_
  have hB37 := hB36.step hs7 (by simp; omega)
  have hs37 : Step [] w3 w7 := ((hs4.trans hs5).then1 hs6 hb3).then1 hs7 (by omega)
  have hW7 := hW3.trans hs37
  have hP7 := hP0.ext hs37
  have hS7 := hS0.ext hs37
  refine W_seq <| W_region (by rfl) ?_
  refine x (r_loadsB hB37 rfl rfl) <| x (r_loadsB hB47 rfl rfl) <| xl rfl <| xf <| (Classes_ok hP7 hS7 hPb.st100).mono ?_
  rintro r8 w8 ⟨hs8, vc, hr8, _, hgc⟩
  rw [hE0] at hr8
  subst hr8
  have hoc := hgc hE0
  rw [hcls] at hoc
  refine x r_move <| x (r_extract rfl rfl) <|
    x (r_extract rfl rfl) <| x r_assign <| x r_assign <| xe ?_
  refine W_seq <| W_region (by rfl) ?_
  refine x (r_loadsB (hB37.ext hs8) rfl rfl) <| x (r_loadsB (hB47.ext hs8) rfl rfl) <| xl rfl <| xf <| (Reduce_ok (hP7.ext hs8) (hS7.ext hs8) hPb.st100).mono ?_
  rintro r9 w9 ⟨hs9, vr, hr9, _, hgr⟩
  rw [hrd0] at hr9
  subst hr9
  have hFr := hgr hrd0
  rw [hrdA] at hFr
  obtain ⟨rva, rvm, rve, rfl, hRA⟩ := hFr
  have hR9 := hRA [] (by simp)
  refine x r_move <| x (r_extract rfl rfl) <|
    x (r_extract rfl rfl) <| xl rfl <| o_alloc (us := [.slice none 0 0, .int .i64 0, .slice none 0 0, .slice none 0 0]) rfl fun b8 w10 hs10 hb8 hB8 => xl rfl <| o_stores (us := [rva, .int .i64 (canA (lwRed aP aS)).st, rvm, rve]) hB8 rfl rfl rfl rfl ⟨hR9.al.one, rfl, hR9.mr.one, hR9.ed.one, trivial⟩ fun w11 hs11 hB811 => x r_assign <|
    xe ?_
  have hs911 : Step [] w9 w11 := hs10.then1 hs11 hb8
  have hs811 := hs9.trans hs911
  have hs711 := hs8.trans hs811
  refine W_seq <| W_region (by rfl) ?_
  refine x (r_loadsB (hB37.ext hs711) rfl rfl) <| x (r_loadsB (hB47.ext hs711) rfl rfl) <| xl rfl <| xf <| (lreduce_ok (hP7.ext hs711) (hS7.ext hs711) hPb).mono ?_
  rintro r12 w12 ⟨hs12, vn, vL, rfl, hN12, hFL⟩
  obtain ⟨lva, lvm, lve, rfl, hLA⟩ := hFL
  have hL12 := hLA [] (by simp)
  refine x r_move <| x (r_extract rfl rfl) <|
    x (r_extract rfl rfl) <| xl rfl <| o_alloc (us := [.slice none 0 0, .int .i64 0, .slice none 0 0, .slice none 0 0]) rfl fun b11 w13 hs13 hb11 hB11 => x r_assign <| xl rfl <| o_stores (us := [lva, .int .i64 (canA (lwRed aP aS)).st, lvm, lve]) hB11 rfl rfl rfl rfl ⟨hL12.al.one, rfl, hL12.mr.one, hL12.ed.one, trivial⟩ fun w14 hs14 hB1114 =>
    xe ?_
  have hs1214 : Step [] w12 w14 := hs13.then1 hs14 hb11
  have hs1114 := hs12.trans hs1214
  have hs814 := hs811.trans hs1114
  have hnl := hN12.le
  refine W_seq <| W_region (by rfl) ?_
  refine x r_move <| x (r_eql rfl rfl) <| x r_move <| x r_move <| x (r_eql rfl rfl) <| x (r_pick rfl) <| x r_move <| x r_move <| x r_move <| xl rfl <| xf <| (wEqual_ok ((IntsO.ints (L := []) hoc hnl (by simp)).ext hs814) (hN12.ext hs1214)).mono ?_
  rintro r15 w15 ⟨hr15, hs15⟩
  rw [decide_eq_true rfl] at hr15
  subst hr15
  have hs1115 := hs1114.trans hs15
  refine x (r_pick rfl) <|
    x r_move <| x (r_loadsB (hB811.ext hs1115) rfl rfl) <| x (r_loadsB (hB1114.ext hs15) rfl rfl) <| xl rfl <| xf <| (Equal_same ((hR9.ext hs911).ext hs1115) ((hL12.ext hs1214).ext hs15)).mono ?_
  rintro r16 w16 ⟨rfl, hs16⟩
  refine x (r_pick rfl) <| x r_assign <| xe ?_
  exact W_ret ⟨[.bool true], ⟨rfl, trivial⟩, rfl, ((hW7.trans hs711).trans hs1115).trans hs16⟩
end Go.Proofs.YtfhgnlkdcdlblaaDoor
/- What a law's row asks of a call that returns true and turns nothing that was there. -/
namespace Go.Lg
open Go.ChangeShapes Go.WideShapes Go.RowKit
section
variable {H : Type} {enc : TypeId × Value → H} {P : Program}
/-- The arguments read as they did. -/
theorem carry_all (hl : laidOutB P = true) {W W' : World} (hS : Step [] W W') {sp : Nat → Bool} : ∀ {ts : List TypeId} {vs : List Value} {ds : List (DataW H)} {ps : List MemPlace},
    (ts.all fun t => P.readableRec t && decide (t < P.types.size)) = true → DataW.TrodAll enc P W 0 (fun _ => true) true ts vs ds ps → (∀ x ∈ ps, x.block < W.heap.size) → (∀ x ∈ ps, sp x.block = true) → DataW.TrodAll enc P W' 0 sp true ts vs ds ps
  | [], vs, ds, ps, _, h, _, _ => by
    obtain ⟨rfl, rfl, rfl⟩ := trodAll_nil h
    exact trodAll_mk0
  | t :: ts, vs, ds, ps, hr, h, hlt, hsp => by
    obtain ⟨v, vs1, d, ds1, a, b, rfl, rfl, rfl, h1, h2⟩ := trodAll_cons h
    simp only [List.all_cons, Bool.and_eq_true, decide_eq_true_eq] at hr
    have hb : Below W.heap.size W W' := hS.below
    refine trodAll_cons_mk (WideElems.Trod_stays hl hr.1.1 hr.1.2 h1 (fun x hx => hb.same (hlt x (List.mem_append_left _ hx))) (fun x hx => hsp x (List.mem_append_left _ hx))) ?_
    exact carry_all hl hS (by simpa using hr.2) h2 (fun x hx => hlt x (List.mem_append_right _ hx)) (fun x hx => hsp x (List.mem_append_right _ hx))
theorem law_post {f : Func} {s : ChangeSpec} {apart fresh handsOn again : Bool} {W W' : World} {args : Array Value} {ds gs : List (DataW H)} {before : List MemPlace} {tb : TypeId}
    (hl : laidOutB P = true) (hread : (f.params.toList.all fun t => P.readableRec t && decide (t < P.types.size)) = true) (hrt : f.resultTypes = #[tb]) (htb : P.underlying tb = some .bool) (hvr : s.vars = [])
    (hfn : s.fn H (ds ++ gs) = { results := [.lit (.bool true)], args := ds })
    (hW : DataW.Whole enc P f.params.toList s.vars apart W args.toList ds gs before) (hS : Step [] W W') : s.post enc P f apart fresh handsOn again W args (.bool true) W' := by
  have hlt := hW.lt
  have hW' := hW
  obtain ⟨p, q, hA, hV, rfl, hz, hn⟩ := hW
  rw [hvr] at hV
  obtain ⟨rfl, rfl⟩ := trodVars_none hV
  rw [List.append_nil] at *
  have hargs : ∀ sp : Nat → Bool, (∀ x ∈ p, sp x.block = true) → DataW.TrodAll enc P W' 0 sp true f.params.toList args.toList ds p := fun sp hsp => carry_all hl hS hread hA hlt hsp
  have hres : ∀ (b : Nat) (sp : Nat → Bool) (hd : Bool), DataW.TrodAll enc P W' b sp hd f.resultTypes.toList ((Value.bool true).resultList f.resultTypes.size) [.lit (.bool true)] [] := fun b sp hd => by
    rw [hrt]; exact trodAll_mk1 (shut_bool htb true)
  have hb : Below W.heap.size W W' := hS.below
  have hvars : ∀ sp : Nat → Bool, DataW.TrodVars enc P W' sp s.vars ([] : List (DataW H)) [] := fun sp => by rw [hvr]; rfl
  have hfn1 : (s.fn H ds).results = [.lit (.bool true)] := by rw [hfn]
  have hfn2 : (s.fn H ds).args = ds := by rw [hfn]
  have hfn3 : (s.fn H ds).vars = [] := by rw [hfn]
  have hok : ∀ (j : Nat) (t : TypeId) (r : Value), f.resultTypes[j]? = some t → ((Value.bool true).resultList f.resultTypes.size)[j]? = some r → Value.okWide P W' .any 0 t r := ok_one hrt rfl (okWide_bool_mk htb true)
  refine ⟨ds, [], p, [], p, [], hW', ?_, ?_, ?_, ?_, fun _ => ⟨hok, [.lit (.bool true)] ++ ds, [], ([] ++ p) ++ [], ⟨[] ++ p, [], ?_, ?_, rfl, ?_, ?_⟩, ?_⟩⟩
  · rw [List.append_nil, hfn1]; exact hres _ _ _
  · rw [List.append_nil, hfn2]; exact hargs _ (fun x hx => by simpa using hlt x hx)
  · rw [List.append_nil, hfn3]; exact hvars _
  · exact World.keptBut_mono (fun _ f => f.elim) (hb.frame (fun _ => False))
  · exact trodAll_append (hargs _ (fun _ _ => rfl)) (hres _ _ _)
  · exact hvars _
  · intro b off hp
    have hp' : MemPlace.cell b off ∈ p := by simpa using hp
    rw [hb.frozen (p := ⟨b, off, none⟩) (hlt _ hp')]
    exact hz b off hp'
  · intro ha
    have := hn ha
    simpa using this
  · intro x hx _
    simpa using hx
end
end Go.Lg
/- Arguments of laws: structs of bytes, slices of bytes. -/
namespace Go.Proofs.YtfhgnlkdcdlblaaDoor
open Go.ChangeShapes Go.WideShapes Go.RowKit Go.Lg

def isU8 (P : Program) (u : TypeId) : Bool := match P.underlying u with
  | some (.int .u8) => true
  | _ => false
theorem isU8_spec {P : Program} {u : TypeId} (h : isU8 P u = true) : P.underlying u = some (.int .u8) := by
  unfold isU8 at h
  split at h
  · assumption
  · cases h
theorem bys_of : ∀ (l : List Value), (∀ v ∈ l, ∃ n : Nat, v = .int .u8 (n : Int) ∧ n < 256) → ∃ ns : List Nat, l = bys ns ∧ ns.length = l.length ∧ ∀ n ∈ ns, n < 256
  | [], _ => ⟨[], rfl, rfl, by simp⟩
  | v :: l, h => by
    obtain ⟨n, rfl, hn⟩ := h v List.mem_cons_self
    obtain ⟨ns, h1, h2, h3⟩ := bys_of l (fun v hv => h v (List.mem_cons_of_mem _ hv))
    refine ⟨n :: ns, by rw [h1]; rfl, by simp [h2], fun m hm => ?_⟩
    rcases List.mem_cons.1 hm with rfl | hm
    · exact hn
    · exact h3 m hm
/-- A struct of bytes alone: its cells. -/
theorem bytes_of {P : Program} {W : World} {base t m : Nat} {v : Value} {fs : Array Field} (hu : P.underlying t = some (.struct fs)) (hts : ((P.cellTypes P.depth t).map fun ts => ts.all (isU8 P)) = some true) (hc : P.cellsOf t = m) (hval : Value.okWide P W .any base t v) :
    ∃ ns : List Nat, v = .agg (bys ns).toArray ∧ ns.length = m ∧ ∀ n ∈ ns, n < 256 := by
  simp only [Value.okWide, hu] at hval
  obtain ⟨cs, rfl, hsz, ts, hts', _, hcell⟩ := hval
  rw [hts'] at hts
  simp only [Option.map_some, Option.some.injEq] at hts
  obtain ⟨l⟩ := cs
  obtain ⟨ns, h1, h2, h3⟩ := bys_of l (fun v hv => by
    obtain ⟨i, hi, rfl⟩ := List.getElem_of_mem hv
    obtain ⟨u, hu1, hu2⟩ := hcell i l[i] (by simp [hi])
    have hu3 := isU8_spec (List.all_eq_true.1 hts u (List.mem_of_getElem? hu1))
    simp only [Cell.okWide, hu3] at hu2
    generalize l[i] = x at hu2
    cases x <;> simp only [Cell.ok, hu3] at hu2
    obtain ⟨rfl, hr⟩ := hu2
    simp only [IntKind.has] at hr
    rw [show IntKind.u8.min = 0 from rfl, show IntKind.u8.max = 255 from rfl] at hr
    rename_i n
    exact ⟨n.toNat, by rw [Int.toNat_of_nonneg hr.1], by omega⟩)
  subst h1
  refine ⟨ns, rfl, ?_, h3⟩
  rw [h2, ← hc, ← hsz]; rfl
theorem At.of_cell {w : World} {a : Addr} {u : Value} (h : w.cell? a = some u) : At [] w.heap a [u] := by
  have hc : cel w.heap a = some u := h
  refine ⟨by simp, ?_, fun j v hv => ?_⟩
  · unfold cel at hc
    cases hb : w.heap[a.block]? with
    | none => rw [hb] at hc; cases hc
    | some o => exact (Array.getElem?_eq_some_iff.1 hb).1
  · cases j with
    | zero => simp at hv; subst hv; rw [show a.add 0 = a by simp [Addr.add]]; exact hc
    | succ j => simp at hv
theorem wf_nat {n : Int} (h : (Lit.int .u8 n).wf = true) : ∃ m : Nat, n = m ∧ m < 256 := by
  simp only [Lit.wf, Bool.and_eq_true, decide_eq_true_eq] at h
  rw [show IntKind.u8.min = 0 from rfl, show IntKind.u8.max = 255 from rfl] at h
  exact ⟨n.toNat, by omega, by omega⟩
/-- The first bytes of a slice that is handed over. -/
theorem bytes_slice {H : Type} {enc : TypeId × Value → H} {P : Program} {W : World} {base : Nat} {sp : Nat → Bool} {held : Bool} {t e : TypeId} {ad : Option Addr} {nb cb : Nat} {d : DataW H} {ps : List MemPlace} (ht : P.underlying t = some (.slice e)) (he : P.underlying e = some (.int .u8)) (hc : P.cellsOf e = 1)
    (h : DataW.Trod enc P W base sp held t (.slice ad nb cb) d ps) (m : Nat) :
    ∃ ms : List Nat, ms.length = min nb m ∧ (∀ k (hk : k < ms.length), ∃ a, ad = some a ∧ At [] W.heap (a.add (k * 1)) [.int .u8 ((ms[k]'hk : Nat) : Int)]) ∧ ∀ n ∈ ms, n < 256 := by
  obtain ⟨fuel, hf⟩ := h
  rcases open_ints ht he hc hf with ⟨hcs, _⟩ | ⟨a, len, cap, zs, hcs, _, hl, _, hz, _, hcell, hwz⟩
  · simp [Value.cells] at hcs
    obtain ⟨rfl, rfl, rfl⟩ := hcs
    exact ⟨[], by simp, fun k hk => by simp at hk, by simp⟩
  · simp [Value.cells] at hcs
    obtain ⟨rfl, rfl, rfl⟩ := hcs
    have hzl : nb ≤ zs.length := by rw [hz]; split <;> omega
    have hget : ∀ k, k < min nb m → ∃ n : Nat, zs.getD k 0 = (n : Int) ∧ n < 256 := fun k hk => wf_nat (hwz _ (by simp [List.getD, show k < zs.length by omega]))
    refine ⟨(zs.take (min nb m)).map Int.toNat, by simp; omega, fun k hk => ⟨a, rfl, ?_⟩, fun n hn => ?_⟩
    · have hk' : k < min nb m := by simp at hk; omega
      obtain ⟨n, hn, _⟩ := hget k hk'
      have h1 := hcell k (by omega)
      rw [hn] at h1
      have e1 : (((zs.take (min nb m)).map Int.toNat)[k]'hk : Nat) = n := by
        rw [List.getElem_map, List.getElem_take]
        have : zs[k]'(by omega) = zs.getD k 0 := by simp [List.getD, show k < zs.length by omega]
        rw [this, hn]; rfl
      rw [e1, Nat.mul_one]
      exact At.of_cell h1
    · obtain ⟨z, hz', rfl⟩ := List.mem_map.1 hn
      obtain ⟨n, rfl, hn2⟩ := wf_nat (hwz z (List.mem_of_mem_take hz'))
      simpa using hn2
end Go.Proofs.YtfhgnlkdcdlblaaDoor
