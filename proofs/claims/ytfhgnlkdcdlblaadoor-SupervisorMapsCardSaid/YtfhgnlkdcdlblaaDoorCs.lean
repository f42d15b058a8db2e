/- Contracts: supervisor.open; slices.Max. -/
import Derived.Test.YtfhgnlkdcdlblaaDoorCl
import Derived.Test.YtfhgnlkdcdlblaaDoorCr
import Derived.Test.YtfhgnlkdcdlblaaDoorSv
namespace Go.Proofs.YtfhgnlkdcdlblaaDoor
open Go.Lg

theorem AutF_st1 {N b : Nat} {w w' : World} {v : Value} {a : Aut} (h : AutF N w.heap v a) (hb : b < N) (hs : Step [b] w w') : AutF N w'.heap v a := by
  obtain ⟨va, vm, ve, h1, h2⟩ := h
  refine ⟨va, vm, ve, h1, fun L hL => ?_⟩
  exact ((h2 (b :: L) (fun c hc => by rcases List.mem_cons.1 hc with rfl | hc; exact hb; exact hL c hc)).st (hs.mono (by simp))).up (fun c hc => .inl (List.mem_cons_of_mem _ hc))
theorem TupF_st1 {N b : Nat} {w w' : World} {v : Value} {l : List (List Int)} (h : TupF N w.heap v l) (hb : b < N) (hs : Step [b] w w') : TupF N w'.heap v l := by
  obtain ⟨ps, h1, h2⟩ := h
  refine ⟨ps, h1, fun L hL => ?_⟩
  exact ((h2 (b :: L) (fun c hc => by rcases List.mem_cons.1 hc with rfl | hc; exact hb; exact hL c hc)).st (hs.mono (by simp))).up (fun c hc => .inl (List.mem_cons_of_mem _ hc))
theorem AutF_shape {N : Nat} {H : Array Obj} {v : Value} {a : Aut} (h : AutF N H v a) : ∃ us, v = .agg us.toArray ∧ us.length = 4 ∧ OnesL us := by
  obtain ⟨va, vm, ve, h1, h2⟩ := h
  have := h2 [] (by simp)
  exact ⟨[va, .int .i64 a.st, vm, ve], h1, rfl, this.al.one, rfl, this.mr.one, this.ed.one, trivial⟩
/-- What open returns. -/
structure OpRes (N : Nat) (H : Array Obj) (p s : Aut) (va vt : Value) : Prop where
  bad : opE p s ≠ 0 → va = zA ∧ vt = nilS
  good : opE p s = 0 → AutF N H va (opA p s) ∧ TupF N H vt (opQ p s)
theorem OpRes.ext {N : Nat} {w w' : World} {p s : Aut} {va vt : Value} (h : OpRes N w.heap p s va vt) (hs : Step [] w w') : OpRes N w'.heap p s va vt := ⟨h.bad, fun e => ⟨(h.good e).1.ext hs, (h.good e).2.ext hs⟩⟩
theorem OpRes.shape {N : Nat} {H : Array Obj} {p s : Aut} {va vt : Value} (h : OpRes N H p s va vt) : ∃ us, va = .agg us.toArray ∧ us.length = 4 ∧ OnesL us := by
  by_cases e : opE p s = 0
  · exact AutF_shape (h.good e).1
  · exact ⟨[.slice none 0 0, .int .i64 0, .slice none 0 0, .slice none 0 0], (h.bad e).1, rfl, rfl, rfl, rfl, rfl, trivial⟩
theorem OpRes.of {N : Nat} {H : Array Obj} {p s : Aut} {va vt : Value} {c : Int} (hc : opC p s = 0) (h : SyRes N H [p, s] va vt c) : c = opE p s ∧ OpRes N H p s va vt := by
  obtain ⟨h1, h2⟩ := opC_zero hc
  have hz : ckP [p, s] = 0 := by unfold ckP; rw [if_neg (by simp)]; exact (ckL_zero _).2 (by intro a ha; simp at ha; rcases ha with rfl | rfl <;> assumption)
  unfold SyRes at h
  rw [if_neg (by simp [hz])] at h
  have hE : opE p s = match sync [p, s] with | none => 3 | some _ => 0 := by unfold opE; rw [if_neg (by simp [hc])]; rfl
  cases hs : sync [p, s] with
  | none =>
    rw [hs] at h hE
    simp only [] at h hE
    exact ⟨by rw [hE]; exact h.1, fun _ => h.2, fun e => by rw [hE] at e; cases e⟩
  | some z =>
    rw [hs] at h hE
    simp only [] at h hE
    have e1 : opA p s = z.1 := by unfold opA; rw [hs]
    have e2 : opQ p s = z.2 := by unfold opQ; rw [hs]
    exact ⟨by rw [hE]; exact h.1, fun e => absurd hE e, fun _ => by rw [e1, e2]; exact h.2⟩

set_option maxHeartbeats 2000000 in
theorem sopen_ok {L : List Nat} {w : World} {pva pvm pve sa sm se : Value} {aP aS : Aut} (hp : AutA L w.heap pva pvm pve aP) (hs : AutA L w.heap sa sm se aS) (hst : Okay aP → Okay aS → aP.st ≤ 100 ∧ aS.st ≤ 100) :
    Ret Tryd.prog 36 [.agg #[pva, .int .i64 aP.st, pvm, pve], .agg #[sa, .int .i64 aS.st, sm, se]] w fun r w' => Step [] w w' ∧ ∃ va vt, r = .tuple #[va, vt, .int .i64 (opE aP aS)] ∧ OpRes w.heap.size w'.heap aP aS va vt := by
  refine Ret.of_W Tryd.func36 rfl Tryd.ntmps36 Tryd.results36 (by simp) ?_
  refine W_seq <| W_region (by rfl) ?_
  refine xl rfl <| o_box (us := [pva, .int .i64 aP.st, pvm, pve]) rfl fun b2 w1 hs1 hb2 hB2 => xl rfl <| o_box (us := [sa, .int .i64 aS.st, sm, se]) rfl fun b3 w2 hs2 hb3 hB3 =>
    xl rfl <| o_alloc (us := [.slice none 0 0, .int .i64 0, .slice none 0 0, .slice none 0 0]) rfl fun b4 w3 hs3 hb4 hB4 => x r_assign <| x r_assign <| xe ?_
  obtain ⟨ps, hps⟩ := exD ([⟨pva, pvm, pve, aP⟩, ⟨sa, sm, se, aS⟩] : List AV)
  have hs13 := (hs1.trans hs2).trans hs3
  have hB23 := (hB2.ext hs2).ext hs3
  have hB33 := hB3.ext hs3
  refine W_seq <| W_seq <| W_region (by rfl) ?_
  refine x (r_loadsB hB23 rfl rfl) <| x (r_loadsB hB33 rfl rfl) <| xl rfl <| o_lits (us := [avCells ⟨pva, pvm, pve, aP⟩, avCells ⟨sa, sm, se, aS⟩]) rfl rfl (by decide) (by exact (by decide : 2 * 4 ≤ 1000000)) ⟨rfl, rfl, rfl, rfl, trivial⟩ fun b12 w4 hs4 hb12 hB12 => ?_
  have hA4 : Arr [] w4.heap (.slice (some ⟨b12, 0, none⟩) 2 2) 2 4 (ps.flatMap avCells) := by rw [← hps]; exact hB12.arr (by simp) rfl (by omega) (by omega)
  have hpl : ps.length = 2 := by rw [← hps]; rfl
  have hA4' : Arr [] w4.heap (.slice (some ⟨b12, 0, none⟩) 2 2) ps.length 4 (ps.flatMap avCells) := by rw [hpl]; exact hA4
  have hz1 := hs1.size
  have hz2 := hs2.size
  have hz3 := hs3.size
  have hz4 := hs4.size
  have hl4 := hB4.lt
  have hW4 := hs13.trans hs4
  have hAA : ∀ p ∈ ps, AutA L w.heap p.va p.vm p.ve p.a := by rw [← hps]; intro p hp'; simp at hp'; rcases hp' with rfl | rfl <;> assumption
  refine x (r_lenA hA4 rfl) <| x r_move <| xe ?_
  refine W_block <| W_loop (α := Nat) [(5, 6), (8, 9), (14, 24)] (fun z => [(14, .int .i64 z)]) (fun z w' => z ≤ 2 ∧ Step [] w4 w' ∧ ∀ p ∈ ps.take z, ckA p.a = 0) (fun z => 2 - z) (by rfl) 0 ⟨rfl, trivial⟩
    ⟨Nat.zero_le _, Step.refl _ _, fun p hp => by simp at hp⟩ ?_
  rintro k g w5 ⟨hk, hs5, hck⟩
  have hW5 := hW4.trans hs5
  have hz5 := hs5.size
  have hB45 := (hB4.ext hs4).ext hs5
  refine W_seq <| W_region (by rfl) ?_
  refine x (r_lss rfl rfl) <| xe ?_
  refine W_seq <| W_ifn rfl (fun h15 => ?_) (fun h15 => ?_)
  · refine W_exit ?_
    rw [List.take_of_length_le (by omega), ← hps] at hck
    have c1 : ckA aP = 0 := hck ⟨pva, pvm, pve, aP⟩ (by simp)
    have c2 : ckA aS = 0 := hck ⟨sa, sm, se, aS⟩ (by simp)
    have o1 := (ckA_zero aP).1 c1
    have o2 := (ckA_zero aS).1 c2
    have hal1 := o1.al_le
    have hal2 := o2.al_le
    have hopC : opC aP aS = if mrg (fun p q => p && !q) aS.al aP.al = [] then 0 else 9 := by unfold opC; rw [if_neg (by simp [c1]), if_neg (by simp [c2])]
    refine W_seq <| W_seq <| W_region (by rfl) ?_
    refine x (r_fieldB rfl) <| x (r_loadB ((hB33.ext hs4).ext hs5) rfl rfl) <| x (r_fieldB rfl) <| x (r_loadB ((hB23.ext hs4).ext hs5) rfl rfl) <| xl rfl <| xf <| (Subset_ok (hs.al.ext hW5) (hp.al.ext hW5) (by omega)).mono ?_
    rintro r6 w6 ⟨hs6, rfl⟩
    refine x (r_not rfl) <| xe ?_
    have hB46 := hB45.ext hs6
    refine W_cond rfl (fun h30 => ?_) (fun h30 => ?_)
    · have hne : ¬ mrg (fun p q => p && !q) aS.al aP.al = [] := by simpa using h30
      rw [if_neg hne] at hopC
      have hE : opE aP aS = 9 := by unfold opE; rw [if_pos (by rw [hopC]; decide), hopC]
      refine W_seq <| W_region (by rfl) ?_
      refine x (r_build trivial) <| xl rfl <| o_stores (us := [.slice none 0 0, .int .i64 0, .slice none 0 0, .slice none 0 0]) hB46 rfl rfl rfl rfl ⟨rfl, rfl, rfl, rfl, trivial⟩ fun w7 hs7 hB7 => x r_assign <| x r_assign <| xe ?_
      refine W_ret ⟨[zA, nilS, .int .i64 9], ⟨⟨_, rfl, run_loadVar_ag rfl (hB7.at (L := []) (by simp)).cells⟩, rfl, rfl, trivial⟩, (hW5.trans hs6).then1 hs7 (by omega), zA, nilS, by rw [hE]; rfl, fun _ => ⟨rfl, rfl⟩, fun e => by rw [hE] at e; cases e⟩
    have heq : mrg (fun p q => p && !q) aS.al aP.al = [] := by simpa using h30
    rw [if_pos heq] at hopC
    have hst' := hst o1 o2
    refine W_skip ?_
    refine W_seq <| W_region (by rfl) ?_
    refine x (r_loadsB (((hB23.ext hs4).ext hs5).ext hs6) rfl rfl) <| x (r_loadsB (((hB33.ext hs4).ext hs5).ext hs6) rfl rfl) <| xl rfl <| o_lits (us := [avCells ⟨pva, pvm, pve, aP⟩, avCells ⟨sa, sm, se, aS⟩]) rfl rfl (by decide) (by exact (by decide : 2 * 4 ≤ 1000000)) ⟨rfl, rfl, rfl, rfl, trivial⟩ fun b34 w8 hs8 hb34 hB34 => ?_
    have hW8 := (hW5.trans hs6).trans hs8
    have hAu : Auts [] w8.heap (.slice (some ⟨b34, 0, none⟩) 2 2) [⟨pva, pvm, pve, aP⟩, ⟨sa, sm, se, aS⟩] := by
      refine ⟨hB34.arr (by simp) rfl (by simp) (by simp), fun q hq => ?_⟩
      simp at hq
      rcases hq with rfl | rfl
      · exact (hp.ext hW8).up (fun _ hb => by cases hb)
      · exact (hs.ext hW8).up (fun _ hb => by cases hb)
    refine xl rfl <| xf <| (Synchronous_ok hAu (by intro q hq; simp at hq; rcases hq with rfl | rfl; exact hst'.1; exact hst'.2)).mono ?_
    rintro r9 w9 ⟨hs9, va, vt, c, rfl, hR⟩
    obtain ⟨rfl, hO⟩ := OpRes.of hopC hR
    obtain ⟨us, hva, husl, hus⟩ := hO.shape
    have hz6 := hs6.size
    have hz8 := hs8.size
    refine x (r_extract rfl rfl) <| x (r_extract rfl rfl) <| x (r_extract rfl rfl) <| xl rfl <| o_stores (us := us) ((hB46.ext hs8).ext hs9) rfl hva husl rfl hus fun w10 hs10 hB10 =>
      x r_assign <| x r_assign <| xe ?_
    refine W_ret ⟨[.agg us.toArray, vt, .int .i64 (opE aP aS)], ⟨⟨_, rfl, run_loadVar_ag husl (hB10.at (L := []) (by simp)).cells⟩, rfl, rfl, trivial⟩, (hW8.trans hs9).then1 hs10 (by omega), va, vt, by rw [hva]; rfl, hO.bad, fun e => ?_⟩
    obtain ⟨g1, g2⟩ := hO.good e
    exact ⟨(AutF_st1 g1 (by omega) hs10).mono (by omega), (TupF_st1 g2 (by omega) hs10).mono (by omega)⟩
  have hlt : k < ps.length := by omega
  have hA := hAA _ (List.getElem_mem hlt)
  obtain ⟨q, hq⟩ := exD (ps[k]'hlt)
  rw [hq] at hA
  have hA4s := hA4'.ext hs5
  refine W_skip ?_
  refine W_seq <| W_block <| W_seq <| W_region (by rfl) ?_
  refine xig av_len hA4s rfl rfl hlt fun a16 h16 => ?_
  rw [hq] at h16
  refine x (r_loadsA h16 rfl rfl) <| xl rfl <| o_alloc (us := [.slice none 0 0, .int .i64 0, .slice none 0 0, .slice none 0 0]) rfl fun b8 w11 hs11 hb8 hB8 => xl rfl <| o_stores (us := avCells q) hB8 rfl rfl rfl rfl ⟨hA.al.one, rfl, hA.mr.one, hA.ed.one, trivial⟩ fun w12 hs12 hB8' =>
    xe ?_
  have hs512 : Step [] w5 w12 := hs11.then1 hs12 hb8
  refine W_seq <| W_region (by rfl) ?_
  refine x (r_loadsB hB8' rfl rfl) <| xl rfl <| xf <| (check_ok ((hA.ext hW5).ext hs512)).mono ?_
  rintro r13 w13 ⟨rfl, hs13'⟩
  refine x r_assign <| xe ?_
  have hs513 := hs512.trans hs13'
  refine W_seq <| W_region (by rfl) ?_
  refine x r_move <| x (r_neq rfl rfl) <| xe ?_
  refine W_if rfl (fun h21 => ?_) (fun h21 => ?_)
  · have hop : opC aP aS = ckA q.a := by
      have hk2 : k = 0 ∨ k = 1 := by omega
      subst hps
      rcases hk2 with rfl | rfl
      · simp only [List.getElem_cons_zero] at hq
        subst hq
        unfold opC; rw [if_pos h21]
      · simp only [List.getElem_cons_succ, List.getElem_cons_zero] at hq
        subst hq
        have c1 : ckA aP = 0 := hck ⟨pva, pvm, pve, aP⟩ (by simp)
        unfold opC; rw [if_neg (by simp [c1]), if_pos h21]
    have hE : opE aP aS = ckA q.a := by unfold opE; rw [if_pos (by rw [hop]; exact h21), hop]
    refine W_seq <| W_region (by rfl) ?_
    refine x (r_build trivial) <| x r_move <| xl rfl <| o_stores (us := [.slice none 0 0, .int .i64 0, .slice none 0 0, .slice none 0 0]) (hB45.ext hs513) rfl rfl rfl rfl ⟨rfl, rfl, rfl, rfl, trivial⟩ fun w14 hs14 hB14 => x r_assign <| x r_assign <| xe ?_
    refine W_ret ⟨[zA, nilS, .int .i64 (ckA q.a)], ⟨⟨_, rfl, run_loadVar_ag rfl (hB14.at (L := []) (by simp)).cells⟩, rfl, rfl, trivial⟩, (hW5.trans hs513).then1 hs14 (by omega), zA, nilS, by rw [hE]; rfl, fun _ => ⟨rfl, rfl⟩, fun e => by rw [hE] at e; exact absurd e h21⟩
  refine W_skip ?_
  refine W_region (by rfl) ?_
  refine x (r_add rfl rfl ⟨by omega, by omega⟩) <| x r_move <| xe ?_
  refine ⟨k + 1, by omega, ⟨rfl, trivial⟩, by omega, hs5.trans hs513, fun p hp' => ?_⟩
  rw [List.take_succ_eq_append_getElem hlt, hq] at hp'
  rcases List.mem_append.1 hp' with h1 | h1
  · exact hck p h1
  · simp only [List.mem_singleton] at h1
    subst h1
    exact Decidable.not_not.1 h21
end Go.Proofs.YtfhgnlkdcdlblaaDoor
