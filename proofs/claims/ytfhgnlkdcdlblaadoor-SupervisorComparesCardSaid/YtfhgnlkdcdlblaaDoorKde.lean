/- Merged out of 6 texts. -/
import Derived.Test.YtfhgnlkdcdlblaaDoorKdd
import Derived.Test.YtfhgnlkdcdlblaaDoorKda
import Derived.ChangeSame
import Derived.Carry
import Derived.OpenShut
import Derived.RowKit
import Derived.Test.YtfhgnlkdcdlblaaDoorKdc
import Derived.ChangeSlices
import Derived.WideShapes
import Derived.ProofKit
/- Contract: supervisor.Equivalent, for plants and supervisors that are right. -/
namespace Go.Proofs.YtfhgnlkdcdlblaaDoor
open Go.Lg

/-- An entry: its word in memory. -/
structure EV where
  v : Value
  e : En
abbrev evCells (p : EV) : List Value := [.int .i64 p.e.x, .int .i64 p.e.y, p.v]
theorem ev_len (p : EV) : (evCells p).length = 3 := rfl
def KnB (m : List ((Int × Int) × Value)) (K : List (Int × Int)) : Prop := ∀ k, mget m k = if k ∈ K then some (.bool true) else none
theorem KnB.add {m : List ((Int × Int) × Value)} {K : List (Int × Int)} (h : KnB m K) (k : Int × Int) : KnB (mput m k (.bool true)) (K ++ [k]) := by
  intro q
  rw [mget_mput, h q]
  by_cases e : k = q
  · subst e; simp
  · by_cases hq : q ∈ K
    · rw [if_neg e, if_pos hq, if_pos (List.mem_append_left _ hq)]
    · rw [if_neg e, if_neg hq, if_neg (fun hm => by
        rcases List.mem_append.1 hm with h1 | h1
        · exact hq h1
        · simp only [List.mem_singleton] at h1; exact e h1.symm)]
structure EqM (wB : World) (bm : Nat) (vL : Value) (es : List EV) (w : World) : Prop where
  st : Step [] wB w
  l : w.ownsRow wB.heap.size 114 3 vL es.length (es.flatMap evCells)
  m : ∃ m, MapB kPair w.heap bm m ∧ KnB m (((es.map (·.e)).drop 1).map En.ky)
  nb : bm ∉ ob vL
  gb : wB.heap.size ≤ bm
  each : ∀ p ∈ es, Ints (bm :: ob vL) w.heap p.v p.e.u
theorem EqM.ext {wB w w' : World} {bm : Nat} {vL : Value} {es : List EV} (h : EqM wB bm vL es w) (hs : Step [] w w') : EqM wB bm vL es w' :=
  ⟨h.st.trans hs, own_ext h.l hs, let ⟨m, h1, h2⟩ := h.m; ⟨m, h1.ext hs, h2⟩, h.nb, h.gb, fun p hp => (h.each p hp).ext hs⟩
theorem EqM.ltb {wB w : World} {bm : Nat} {vL : Value} {es : List EV} (h : EqM wB bm vL es w) : bm < w.heap.size := let ⟨_, h1, _⟩ := h.m; h1.lt
/-- One entry more: the map, then the list. -/
theorem EqM.add {wB w w1 w2 w3 : World} {bm : Nat} {vL vL' : Value} {es : List EV} {p : EV} {m : List ((Int × Int) × Value)} (h : EqM wB bm vL es w) (hne : 0 < es.length) (hs1 : Step [bm] w w1) (hm : MapB kPair w1.heap bm m) (hk : KnB m ((((es.map (·.e)).drop 1).map En.ky) ++ [p.e.ky])) (hs2 : Step [] w1 w2)
    (hs3 : Step (ob vL) w2 w3) (hl : w3.ownsRow wB.heap.size 114 3 vL' (es.length + 1) (es.flatMap evCells ++ evCells p)) (hn : ∀ b ∈ ob vL', b ∈ ob vL ∨ w2.heap.size ≤ b) (hp : Ints (bm :: ob vL) w.heap p.v p.e.u) : EqM wB bm vL' (es ++ [p]) w3 := by
  have hz1 := hs1.size
  have hz2 := hs2.size
  have hlb := h.ltb
  have hgl := own_ge h.l
  have S12 : Step [] wB w2 := (h.st.then1 hs1 h.gb).trans hs2
  refine ⟨S12.then hs3 (fun b hb => .inr (hgl b hb).1), by rw [List.length_append, List.flatMap_append]; simpa using hl, ⟨m, (hm.ext hs2).step hs3 h.nb, ?_⟩, fun hb => ?_, h.gb, fun q hq => ?_⟩
  · rw [List.map_append, List.drop_append_of_le_length (by simp; omega), List.map_append]; exact hk
  · rcases hn bm hb with h1 | h1
    · exact h.nb h1
    · omega
  · have key : ∀ q : EV, Ints (bm :: ob vL) w.heap q.v q.e.u → Ints (bm :: ob vL') w3.heap q.v q.e.u := fun q hq => by
      have h1 : Ints (bm :: ob vL) w2.heap q.v q.e.u := (hq.step hs1 (fun b hb => by simp at hb; simp [hb])).ext hs2
      have h2 : Ints (bm :: (ob vL' ++ ob vL)) w2.heap q.v q.e.u := h1.up (fun b hb => by
        rcases List.mem_cons.1 hb with rfl | hb
        · exact .inl List.mem_cons_self
        · rcases List.mem_append.1 hb with hb | hb
          · rcases hn b hb with h3 | h3
            · exact .inl (List.mem_cons_of_mem _ h3)
            · exact .inr h3
          · exact .inl (List.mem_cons_of_mem _ hb))
      exact (h2.step hs3 (fun b hb => by simp [hb])).up (fun b hb => .inl (by
        rcases List.mem_cons.1 hb with rfl | hb
        · exact List.mem_cons_self
        · exact List.mem_cons_of_mem _ (List.mem_append_left _ hb)))
    rcases List.mem_append.1 hq with hq | hq
    · exact key q (h.each q hq)
    · simp only [List.mem_singleton] at hq; subst hq; exact key q hp
theorem ev_get {es : List EV} {i : Nat} (h : i < es.length) : (es.map (·.e)).getD i en0 = (es[i]'h).e := by simp [List.getD, h]

set_option maxHeartbeats 16000000 in
theorem Equivalent_ok {w : World} {pva pvm pve sva svm sve tva tvm tve : Value} {aP aS aT : Aut} (hP : AutA [] w.heap pva pvm pve aP) (hS : AutA [] w.heap sva svm sve aS) (hT : AutA [] w.heap tva tvm tve aT) (hst1 : Okay aP → Okay aS → aP.st ≤ 100 ∧ aS.st ≤ 100) (hst2 : Okay aP → Okay aT → aP.st ≤ 100 ∧ aT.st ≤ 100)
    (hE1 : opE aP aS = 0) (hE2 : opE aP aT = 0) :
    Ret Tryd.prog 25 [.agg #[pva, .int .i64 aP.st, pvm, pve], .agg #[sva, .int .i64 aS.st, svm, sve], .agg #[tva, .int .i64 aT.st, tvm, tve]] w fun r w' => Step [] w w' ∧
      match eqv (opA aP aS) (opA aP aT) aP.al with | some u => ∃ v, r = .tuple #[v, .bool false, .int .i64 0] ∧ Ints [] w'.heap v u | none => r = .tuple #[nilS, .bool true, .int .i64 0] := by
  obtain ⟨o1, o2, _⟩ := opE_zero hE1
  obtain ⟨hSyA, hOA, _⟩ := opE_syP hE1
  obtain ⟨hSyB, hOB, _⟩ := opE_syP hE2
  refine Ret.of_W Tryd.func25 rfl Tryd.ntmps25 Tryd.results25 (by simp) ?_
  refine exE (opA aP aS) fun A hA => exE (opA aP aT) fun B hB => ?_
  rw [hA] at hOA hSyA
  rw [hB] at hOB hSyB
  rw [hA, hB]
  refine W_seq <| W_region (by rfl) ?_
  refine xl rfl <| o_box (us := [pva, .int .i64 aP.st, pvm, pve]) rfl fun b3 w1 hs1 hb3 hB3 => xl rfl <| o_box (us := [sva, .int .i64 aS.st, svm, sve]) rfl fun b4 w2 hs2 hb4 hB4 => xl rfl <| o_box (us := [tva, .int .i64 aT.st, tvm, tve]) rfl fun b5 w3 hs3 hb5 hB5 => x r_assign <|
    x r_assign <| x r_assign <| xe ?_
  have hs13 := (hs1.trans hs2).trans hs3
  refine W_seq <| W_region (by rfl) ?_
  refine x (r_loadsB ((hB3.ext hs2).ext hs3) rfl rfl) <| x (r_loadsB (hB4.ext hs3) rfl rfl) <| xl rfl <| xf <| (sopen_ok (hP.ext hs13) (hS.ext hs13) hst1).mono ?_
  rintro r4 w4 ⟨hs4, va4, vt4, hr4, hO4⟩
  rw [hE1] at hr4
  subst hr4
  have hg4 := (hO4.good hE1).1
  rw [hA] at hg4
  obtain ⟨ava, avm, ave, rfl, hAA⟩ := hg4
  have hA4 := hAA [] (by simp)
  refine x r_move <| x (r_extract rfl rfl) <|
    x (r_extract rfl rfl) <| x (r_extract rfl rfl) <| xl rfl <| o_alloc (us := [.slice none 0 0, .int .i64 0, .slice none 0 0, .slice none 0 0]) rfl fun b9 w5 hs5 hb9 hB9 => xl rfl <| o_stores (us := [ava, .int .i64 A.st, avm, ave]) hB9 rfl rfl rfl rfl ⟨hA4.al.one, rfl, hA4.mr.one, hA4.ed.one, trivial⟩ fun w6 hs6 hB96 =>
    x r_assign <| x r_assign <| xe ?_
  have hs46 : Step [] w4 w6 := hs5.then1 hs6 hb9
  have hs36 := hs4.trans hs46
  have hs16 := hs13.trans hs36
  refine W_seq <| W_seq <| W_region (by rfl) ?_
  refine x r_move <| x (r_neq rfl rfl) <| xe ?_
  refine W_false rfl ?_
  refine W_skip ?_
  refine W_seq <| W_region (by rfl) ?_
  refine x (r_loadsB (((hB3.ext hs2).ext hs3).ext hs36) rfl rfl) <| x (r_loadsB (hB5.ext hs36) rfl rfl) <| xl rfl <| xf <| (sopen_ok (hP.ext hs16) (hT.ext hs16) hst2).mono ?_
  rintro r7 w7 ⟨hs7, va7, vt7, hr7, hO7⟩
  rw [hE2] at hr7
  subst hr7
  have hg7 := (hO7.good hE2).1
  rw [hB] at hg7
  obtain ⟨bva, bvm, bve, rfl, hBA⟩ := hg7
  have hB7 := hBA [] (by simp)
  refine x r_move <| x (r_extract rfl rfl) <|
    x (r_extract rfl rfl) <| x (r_extract rfl rfl) <| xl rfl <| o_alloc (us := [.slice none 0 0, .int .i64 0, .slice none 0 0, .slice none 0 0]) rfl fun b11 w8 hs8 hb11 hB11 => xl rfl <| o_stores (us := [bva, .int .i64 B.st, bvm, bve]) hB11 rfl rfl rfl rfl ⟨hB7.al.one, rfl, hB7.mr.one, hB7.ed.one, trivial⟩ fun w9 hs9 hB119 =>
    x r_assign <| x r_assign <| xe ?_
  have hs79 : Step [] w7 w9 := hs8.then1 hs9 hb11
  have hs69 := hs7.trans hs79
  have hs19 := hs16.trans hs69
  have hA9 := (hA4.ext hs46).ext hs69
  have hBb9 := hB7.ext hs79
  have hB99 := hB96.ext hs69
  have hP9 := hP.ext hs19
  have hB39 := (((hB3.ext hs2).ext hs3).ext hs36).ext hs69
  refine W_seq <| W_seq <| W_region (by rfl) ?_
  refine x r_move <| x (r_neq rfl rfl) <| xe ?_
  refine W_false rfl ?_
  refine W_skip ?_
  refine W_seq <| W_region (by rfl) ?_
  refine x r_assign <| xe ?_
  refine W_seq <| W_region (by rfl) ?_
  refine x (r_build ⟨rfl, rfl, rfl, trivial⟩) <| xl rfl <| o_alloc (us := [.int .i64 0, .int .i64 0, .slice none 0 0]) rfl fun b14 w10 hs10 hb14 hB14 => xl rfl <| o_stores (us := [.int .i64 (-1), .int .i64 (-1), .slice none 0 0]) hB14 rfl rfl rfl rfl ⟨rfl, rfl, rfl, trivial⟩ fun w11 hs11 hB1411 =>
    xe ?_
  have hs911 : Step [] w9 w11 := hs10.then1 hs11 hb14
  refine exE (if 0 < A.st then (0 : Int) else -1) fun xi0 hxi0 => exE (if 0 < B.st then (0 : Int) else -1) fun yi0 hyi0 => ?_
  refine W_cut (α := Unit) [(45, 48)] (fun z => []) (fun z w' => Step [] w9 w' ∧ Blk w'.heap b14 114 [.int .i64 xi0, .int .i64 (-1), .slice none 0 0]) (by rfl) ?_ ?_
  · refine W_seq <| W_region (by rfl) ?_
    refine x (r_fieldB rfl) <| x (r_loadB (hB99.ext hs911) rfl rfl) <| x (r_gtr rfl rfl) <| xe ?_
    refine W_ifn rfl (fun h47 => ?_) (fun h47 => ?_)
    · refine W_skip ?_
      rw [if_neg h47] at hxi0
      rw [← hxi0]
      exact ⟨(), trivial, hs911, hB1411⟩
    rw [if_pos h47] at hxi0
    rw [← hxi0]
    refine W_region (by rfl) ?_
    refine x (r_fieldB rfl) <| xl rfl <| o_store (j := 0) hB1411 rfl rfl (by simp) rfl fun w12 hs12 hB1412 => xe ?_
    exact ⟨(), trivial, hs911.then1 hs12 hb14, hB1412⟩
  rintro _ g13 w13 ⟨hs913, hB1413⟩
  refine W_cut (α := Unit) [(49, 52)] (fun z => []) (fun z w' => Step [] w9 w' ∧ Blk w'.heap b14 114 [.int .i64 xi0, .int .i64 yi0, .slice none 0 0]) (by rfl) ?_ ?_
  · refine W_seq <| W_region (by rfl) ?_
    refine x (r_fieldB rfl) <| x (r_loadB (hB119.ext hs913) rfl rfl) <| x (r_gtr rfl rfl) <| xe ?_
    refine W_ifn rfl (fun h51 => ?_) (fun h51 => ?_)
    · refine W_skip ?_
      rw [if_neg h51] at hyi0
      rw [← hyi0]
      exact ⟨(), trivial, hs913, hB1413⟩
    rw [if_pos h51] at hyi0
    rw [← hyi0]
    refine W_region (by rfl) ?_
    refine x (r_fieldB rfl) <| xl rfl <| o_store (j := 1) hB1413 rfl rfl (by simp) rfl fun w14 hs14 hB1414 => xe ?_
    exact ⟨(), trivial, hs913.then1 hs14 hb14, hB1414⟩
  rintro _ g15 w15 ⟨hs915, hB1415⟩
  have hA15 := hA9.ext hs915
  have hBb15 := hBb9.ext hs915
  refine W_seq <| W_draw (Step [] w15) [(0, true), (2, true), (1, false), (3, false), (4, true), (5, true)] Tryd.mixed (by rfl) (by kernel_rfl) (Step.drew _ _) ?_
  refine pq (fun _ hc => r_loadsB ((hB99.ext hs915).ext hc) rfl rfl) <| pq (fun _ hc => r_loadsB ((hB119.ext hs915).ext hc) rfl rfl) <| pk <| xf <| (steps_ok (hA15.ed.ext (Step.drew [] w15))).mono ?_
  rintro r16 w16 ⟨hs16', bu, rfl, hbu, hMu⟩
  have hs1516 := (Step.drew [] w15).trans hs16'
  refine ⟨hs1516, ?_⟩
  refine pk <| xf <| (steps_ok (hBb15.ed.ext hs1516)).mono ?_
  rintro r17 w17 ⟨hs17, bv, rfl, hbv, hMv⟩
  have hs1517 := hs1516.trans hs17
  refine ⟨hs1517, ?_⟩
  refine p (fun _ => r_assign) <| p (fun _ => r_assign) <| pe ?_
  have hMu17 := hMu.ext hs17
  have hs917 := hs915.trans hs1517
  have hA17 := hA15.ext hs1517
  have hBb17 := hBb15.ext hs1517
  have hP17 := hP9.ext hs917
  have hB317 := hB39.ext hs917
  have hB917 := hB99.ext hs917
  have hB1117 := hB119.ext hs917
  refine W_seq <| W_region (by rfl) ?_
  refine x (r_loadsB (hB1415.ext hs1517) rfl rfl) <| xl rfl <| o_lits (us := [evCells ⟨.slice none 0 0, ⟨xi0, yi0, []⟩⟩]) rfl rfl (by decide) (by exact (by decide : 1 * 3 ≤ 1000000)) ⟨rfl, rfl, trivial⟩ fun b58 w18 hs18 hb58 hB58 => x r_assign <| xe ?_
  refine W_seq <| W_region (by rfl) ?_
  refine xl rfl <| o_makeMap kPair fun b59 w19 hs19' hb59 hm59 => x r_assign <| xe ?_
  have hl58 := hB58.lt
  have hz18 := hs18.size
  have hI0 : EqM w17 b59 (.slice (some ⟨b58, 0, none⟩) 1 1) [⟨.slice none 0 0, ⟨xi0, yi0, []⟩⟩] w19 := by
    refine ⟨hs18.trans hs19', own_ext (hB58.own (n := 1) rfl (by omega) hb58) hs19', ⟨[], hm59, fun k => by simp [mget]⟩, by simp [ob]; omega, by omega, fun p hp => ?_⟩
    simp only [List.mem_singleton] at hp; subst hp; exact Arr.nil _ _ _
  have hst0 := hOA.st0
  have hst1' := hOA.st1
  have htt0 := hOB.st0
  have htt1 := hOB.st1
  refine exE ((A.st.toNat + 1) * (B.st.toNat + 1) + 1) fun F hF => ?_
  have hFb : F ≤ 16785410 := by
    have h1 : (A.st.toNat + 1) * (B.st.toNat + 1) ≤ 4097 * 4097 := Nat.mul_le_mul (by omega) (by omega)
    omega
  refine exE (eqv A B aP.al) fun R hR => ?_
  rw [hR]
  have hR0 : eqL A B aP.al F 0 (([⟨.slice none 0 0, ⟨xi0, yi0, []⟩⟩] : List EV).map (·.e)) = R := by rw [← hR]; unfold eqv eqI; rw [hF, hxi0, hyi0]; rfl
  have hJ0 : EnI A B (([⟨.slice none 0 0, ⟨xi0, yi0, []⟩⟩] : List EV).map (·.e)) := by have := eqI_I A B hst0 htt0; unfold eqI at this; rw [hxi0, hyi0] at this; exact this
  have hall := o1.al_le
  refine W_seq <| W_seq <| W_region (by rfl) ?_
  refine x r_assign <| xe ?_
  refine W_block <| W_loop (α := Nat × Value × List EV) [(6, 8), (17, 17), (19, 19), (21, 23), (60, 133)] (fun z => [(17, z.2.1), (19, .int .i64 z.1)])
    (fun z w' => z.1 ≤ F ∧ z.1 ≤ z.2.2.length ∧ EqM w17 b59 z.2.1 z.2.2 w' ∧ EnI A B (z.2.2.map (·.e)) ∧ eqL A B aP.al (F - z.1) z.1 (z.2.2.map (·.e)) = R) (fun z => F - z.1) (by rfl) (0, .slice (some ⟨b58, 0, none⟩) 1 1, [⟨.slice none 0 0, ⟨xi0, yi0, []⟩⟩]) ⟨rfl, rfl, trivial⟩
    ⟨Nat.zero_le _, Nat.zero_le _, hI0, hJ0, hR0⟩ ?_
  rintro ⟨i, vL, es⟩ g20 w20 ⟨hiF, hil, hM20, hJ20, hR20⟩
  simp only [] at hiF hil hM20 hJ20 hR20
  have hle20 := hJ20.le hOA hOB
  rw [hF, List.length_map] at hle20
  have hW20 : Step [] w w20 := (hs19.trans hs917).trans hM20.st
  have hLr : Arr [] w20.heap vL es.length 3 (es.flatMap evCells) := own_arr hM20.l (by omega) (fun b _ => by simp)
  refine W_seq <| W_seq <| W_region (by rfl) ?_
  refine x r_move <| x r_move <| x (r_lenA hLr rfl) <| x (r_lss rfl rfl) <| xe ?_
  refine W_ifn rfl (fun h63 => ?_) (fun h63 => ?_)
  · refine W_exit ?_
    have hRn : R = none := by
      rw [← hR20]
      have h64 : ¬ i < (es.map (·.e)).length := by rw [List.length_map]; have h65 : ¬ (i : Int) < (es.length : Int) := h63; omega
      generalize F - i = f
      cases f with
      | zero => rfl
      | succ f => rw [eqL, if_neg h64]
    rw [hRn]
    refine W_seq <| W_region (by rfl) ?_
    refine x r_assign <| x r_assign <| x r_assign <| xe ?_
    exact W_ret ⟨[nilS, .bool true, .int .i64 0], ⟨rfl, rfl, rfl, trivial⟩, hW20, rfl⟩
  have hi : i < es.length := by have h65 : (i : Int) < (es.length : Int) := h63; omega
  have hFi : F - i = (F - (i + 1)) + 1 := by omega
  rw [hFi, eqL, if_pos (by rw [List.length_map]; exact hi), ev_get hi] at hR20
  have hWd0 := hM20.each _ (List.getElem_mem hi)
  have hJi : (es.map (·.e))[i]'(by rw [List.length_map]; exact hi) = (es[i]'hi).e := by rw [List.getElem_map]
  have hwl := hJ20.wd i (by rw [List.length_map]; exact hi)
  rw [hJi] at hwl
  refine exE (es[i]'hi) fun ei hei => ?_
  rw [hei] at hR20 hWd0 hJi hwl
  have hs20 := hM20.st
  have hWd := hWd0.up (L' := []) (fun b hb => by cases hb)
  refine W_skip ?_
  refine W_seq <| W_block <| W_seq <| W_seq <| W_draw (Step [] w20) [(0, true), (1, true), (2, true), (3, true), (4, true), (5, true), (6, false)] Tryd.mixed (by rfl) (by kernel_rfl) (Step.drew _ _) ?_
  refine p (fun _ => r_move) <| p (fun _ => r_move) <| Lg.pig (g := evCells) (i := i) rfl ev_len hLr rfl rfl hi fun a68 h68 => ?_
  rw [hei] at h68
  refine pq (fun _ hc => r_loadsA (h68.ext hc) rfl rfl) <|
    pq (fun _ hc => r_loadsB ((hB917.ext hs20).ext hc) rfl rfl) <| pq (fun _ hc => r_loadsB ((hB1117.ext hs20).ext hc) rfl rfl) <| pk <| xf <| (differ_ok ((hA17.ext hs20).ext (Step.drew [] w20)) ((hBb17.ext hs20).ext (Step.drew [] w20)) hOA.mri hOB.mri ei.e.x ei.e.y).mono ?_
  rintro r21 w21 ⟨rfl, hs21⟩
  have hs2021 := (Step.drew [] w20).trans hs21
  refine ⟨hs2021, ?_⟩
  refine pe ?_
  refine W_cond rfl (fun h72 => ?_) (fun h72 => ?_)
  · rw [if_pos h72] at hR20
    rw [← hR20]
    refine W_seq <| W_region (by rfl) ?_
    refine x r_move <| x r_move <| xig (g := evCells) (i := i) ev_len (hLr.ext hs2021) rfl rfl hi fun a75 h75 => ?_
    rw [hei] at h75
    refine x (r_field rfl) <| x (r_loadA (h75.fld 2 _ rfl) rfl) <| x r_assign <|
      x r_assign <| x r_assign <| xe ?_
    exact W_ret ⟨[ei.v, .bool false, .int .i64 0], ⟨rfl, rfl, rfl, trivial⟩, hW20.trans hs2021, ei.v, rfl, hWd.ext hs2021⟩
  rw [if_neg (by rw [h72]; simp)] at hR20
  have hM21 := hM20.ext hs2021
  refine exE (aP.al.foldl (eqS A B ei.e) (es.map (·.e))) fun L1 hL1 => ?_
  rw [hL1] at hR20
  refine W_skip ?_
  refine W_seq <| W_region (by rfl) ?_
  refine x (r_fieldB rfl) <| x (r_loadB (hB317.ext hM21.st) rfl rfl) <| x (r_lenA hP17.al rfl) <| x r_move <| xe ?_
  refine W_block <| W_loop (α := Nat × Value × List EV) [(17, 17), (21, 23), (81, 133)] (fun z => [(17, z.2.1), (81, .int .i64 z.1)])
    (fun z w' => z.1 ≤ aP.al.length ∧ EqM w17 b59 z.2.1 z.2.2 w' ∧ EnI A B (z.2.2.map (·.e)) ∧ (∃ h : i < z.2.2.length, z.2.2[i]'h = ei) ∧ (aP.al.drop z.1).foldl (eqS A B ei.e) (z.2.2.map (·.e)) = L1) (fun z => aP.al.length - z.1) (by rfl) (0, vL, es) ⟨rfl, rfl, trivial⟩
    ⟨Nat.zero_le _, hM21, hJ20, ⟨hi, hei⟩, hL1⟩ ?_
  rintro ⟨k, vL2, fs⟩ g22 w22 ⟨hk, hM22, hJ22, hfi, hr22⟩
  simp only [] at hk hM22 hJ22 hfi hr22
  have hle22 := hJ22.le hOA hOB
  rw [hF, List.length_map] at hle22
  refine W_seq <| W_region (by rfl) ?_
  refine x (r_lss rfl rfl) <| xe ?_
  refine W_seq <| W_ifn rfl (fun h82 => ?_) (fun h82 => ?_)
  · refine W_exit ?_
    have hk2 : aP.al.length ≤ k := by have h83 : ¬ (k : Int) < (aP.al.length : Int) := h82; omega
    rw [List.drop_of_length_le hk2] at hr22
    have hr22' : fs.map (·.e) = L1 := hr22
    rw [← hr22'] at hR20
    refine W_region (by rfl) ?_
    refine x r_move <| x (r_add rfl rfl ⟨by omega, by omega⟩) <| x r_assign <| xe ?_
    exact ⟨(i + 1, vL2, fs), by simp only []; omega, ⟨rfl, rfl, trivial⟩, by simp only []; omega, by simp only []; exact hfi.1, hM22, hJ22, hR20⟩
  have hklt : k < aP.al.length := by have h83 : (k : Int) < (aP.al.length : Int) := h82; omega
  rw [drop_cons hklt, List.foldl_cons] at hr22
  refine exE (aP.al[k]'hklt) fun ev0 hev0 => ?_
  rw [hev0] at hr22
  have hs22 := hM22.st
  have hP22 := hP17.ext hs22
  refine W_skip ?_
  refine W_seq <| W_block <| W_seq <| W_region (by rfl) ?_
  refine xii hP22.al rfl rfl hklt fun a83 h83 => ?_
  rw [hev0] at h83
  refine x (r_loadA h83 rfl) <| x r_assign <| xe ?_
  refine Exists.elim hfi fun hi hei => ?_
  have hLr : Arr [] w22.heap vL2 fs.length 3 (fs.flatMap evCells) := own_arr hM22.l (by omega) (fun b _ => by simp)
  have hWd1 := hM22.each _ (List.getElem_mem hi)
  rw [hei] at hWd1
  have hWd := hWd1.up (L' := []) (fun b hb => by cases hb)
  have hU := hMu17.ext hs22
  have hV := hMv.ext hs22
  have hAs := hOA.edi
  have hBs := hOB.edi
  have hc0 : Step [] w22 { w22 with drawn := w22.drawn + 1 } := Step.drew [] w22
  refine W_cut (α := Nat × Value) [(22, 22), (85, 112)] (fun z => [(22, .pointer (some ⟨z.1, 0, none⟩))]) (fun z w' => Step [] w22 w' ∧ Blk w'.heap z.1 114 [.int .i64 (nxt A.ed ei.e.x ev0), .int .i64 (nxt B.ed ei.e.y ev0), z.2] ∧ IntsO 3 w22.heap.size w' z.2 (ei.e.u ++ [ev0]) ∧ w22.heap.size ≤ z.1) (by rfl) ?_ ?_
  · refine W_drawU (Step [] w22) (.f3 [(0, true), (1, true), (2, true), (3, true), (4, true), (5, true), (6, true), (7, true), (9, true), (10, true), (11, true), (12, true), (13, true), (14, true), (15, true), (16, true), (18, true), (19, true), (20, true), (21, true), (22, true), (24, true)] 8 25 28 (.f3 [] 17 25 28 (.f3 [] 23 25 28 (.f2 [] 25 28 (.f2 [] 26 28 (.pl [(27, true), (28, false), (29, false)]) (.pl [(26, false), (27, true), (29, false)])) (.pl [(25, false), (26, false), (27, true), (29, false)])) (.f2 [] 23 28 (.f2 [] 26 28 (.pl [(27, true), (28, false), (29, false)]) (.pl [(26, false), (27, true), (29, false)])) (.pl [(23, false), (26, false), (27, true), (29, false)])) (.f2 [] 23 25 (.pl [(25, false), (26, false), (27, true), (29, false)]) (.pl [(23, false), (26, false), (27, true), (29, false)]))) (.f2 [] 17 28 (.f2 [] 23 28 (.f2 [] 26 28 (.pl [(27, true), (28, false), (29, false)]) (.pl [(26, false), (27, true), (29, false)])) (.pl [(23, false), (26, false), (27, true), (29, false)])) (.pl [(17, false), (23, false), (26, false), (27, true), (29, false)])) (.f2 [] 17 25 (.f2 [] 23 25 (.pl [(25, false), (26, false), (27, true), (29, false)]) (.pl [(23, false), (26, false), (27, true), (29, false)])) (.pl [(17, false), (23, false), (26, false), (27, true), (29, false)]))) (.f2 [] 8 28 (.f2 [] 17 28 (.f2 [] 23 28 (.f2 [] 26 28 (.pl [(27, true), (28, false), (29, false)]) (.pl [(26, false), (27, true), (29, false)])) (.pl [(23, false), (26, false), (27, true), (29, false)])) (.pl [(17, false), (23, false), (26, false), (27, true), (29, false)])) (.pl [(8, false), (17, false), (23, false), (26, false), (27, true), (29, false)])) (.f2 [] 8 25 (.f2 [] 17 25 (.f2 [] 23 25 (.pl [(25, false), (26, false), (27, true), (29, false)]) (.pl [(23, false), (26, false), (27, true), (29, false)])) (.pl [(17, false), (23, false), (26, false), (27, true), (29, false)])) (.pl [(8, false), (17, false), (23, false), (26, false), (27, true), (29, false)]))) Tryd.mixed (by rfl) (by kernel_rfl) (Step.drew _ _) ?_
    refine u3 <| p (fun _ => r_move) <| p (fun _ => r_move) <| p (fun _ => r_move) <| p (fun _ => r_move) <| Lg.pig (g := evCells) (i := i) rfl ev_len hLr rfl rfl hi fun a89 h89 => ?_
    rw [hei] at h89
    refine p (fun _ => r_field rfl) <| pq (fun _ hc => r_loadA ((h89.fld 0 _ rfl).ext hc) rfl) <| p (fun _ => r_move) <| p (fun _ => r_move) <| p (fun _ => r_move) <| p (fun _ => r_move) <| p (fun _ => r_move) <| Lg.pig (g := evCells) (i := i) rfl ev_len hLr rfl rfl hi fun a98 h98 => ?_
    rw [hei] at h98
    refine p (fun _ => r_field rfl) <| pq (fun _ hc => r_loadA ((h98.fld 1 _ rfl).ext hc) rfl) <| p (fun _ => r_move) <| p (fun _ => r_move) <| p (fun _ => r_move) <| Lg.pig (g := evCells) (i := i) rfl ev_len hLr rfl rfl hi fun a105 h105 => ?_
    rw [hei] at h105
    refine p (fun _ => r_field rfl) <| pq (fun _ hc => r_loadA ((h105.fld 2 _ rfl).ext hc) rfl) <| p (fun _ => r_move) <| pe ⟨?_, ?_, ?_⟩
    · refine ue <| xc (first := []) (capt := []) rfl <| (eto_ok (hU.ext hc0) hAs ei.e.x ev0).mono ?_
      rintro r1 w1 ⟨rfl, hs1⟩
      have hc1 := hc0.trans hs1
      have hz1 := hs1.size
      refine ⟨hc1, ?_⟩
      refine u3 <| pe ⟨?_, ?_, ?_⟩
      · refine ue <| xc (first := []) (capt := []) rfl <| (eto_ok (hV.ext hc1) hBs ei.e.y ev0).mono ?_
        rintro r2 w2 ⟨rfl, hs2⟩
        have hc2 := hc1.trans hs2
        have hz2 := hs2.size
        refine ⟨hc2, ?_⟩
        refine u3 <| pe ⟨?_, ?_, ?_⟩
        · refine ue <| xf <| (clone_ok (hWd.ext hc2)).mono ?_
          rintro vk w3 ⟨hs3, hok⟩
          have hc3 := hc2.trans hs3
          have hz3 := hs3.size
          have hgek := own_ge hok
          refine ⟨hc3, ?_⟩
          refine u2 <| pe ⟨?_, ?_⟩
          · refine ue <| o_lits (us := [[.int .i64 ev0]]) rfl rfl (by decide) (by simp) ⟨rfl, rfl, trivial⟩ fun bl w4 hs4 hbl hBl => ?_
            have hc4 := hc3.trans hs4
            have hz4 := hs4.size
            have hll := hBl.lt
            refine ⟨hc4, ?_⟩
            refine u2 <| pe ⟨?_, ?_⟩
            · refine ue <| o_app (news := [.int .i64 ev0]) (L := []) (own_ext hok hs4) rfl rfl rfl (hBl.at (by simp)) (by simp [Value.oneCell']) (by omega) (by omega) fun va w5 hoa ht5 hna => ?_
              have hc5 : Step [] w22 w5 := hc4.then ht5 (fun b hb => .inr (by have := (hgek b hb).1; have := hc0.size; omega))
              have hoa2 := IntsO.snoc (own_base hoa (show w22.heap.size ≤ _ by have := hc0.size; omega))
              have hz5 := ht5.size
              refine ⟨hc5, ?_⟩
              refine uP <| ?_
              have hone := (IntsO.ints (L := []) hoa2 (by simp; omega) (by simp)).one
              have hcel := (IntsO.ints (L := []) hoa2 (by simp; omega) (by simp)).cells
              refine p (fun _ => r_build ⟨rfl, rfl, hcel, trivial⟩) <| ?_
              refine pk <| o_alloc (us := [.int .i64 0, .int .i64 0, .slice none 0 0]) rfl fun bp w6 hs6 hbp hBp => ?_
              have hc6 := hc5.trans hs6
              have hz6 := hs6.size
              have hlp := hBp.lt
              refine ⟨hc6, ?_⟩
              refine pk <| o_stores (us := [.int .i64 (nxt A.ed ei.e.x ev0), .int .i64 (nxt B.ed ei.e.y ev0), va]) hBp rfl rfl rfl rfl ⟨rfl, rfl, hone, trivial⟩ fun wz hsz hBz => ⟨hc6.then1 hsz (by have := hc0.size; omega), pe ?_⟩
              have hna2 : bp ∉ ob va := fun hb => by rcases hna bp hb with h1 | h1; have := hgek bp h1; omega; have := (own_ge hoa bp hb).2; omega
              exact ⟨(bp, va), ⟨rfl, trivial⟩, hc6.then1 hsz (by have := hc0.size; omega), hBz, own_step (own_ext hoa2 hs6) hsz (fun b hb => by simp; exact fun e => hna2 (e ▸ hb)), by have := hc0.size; omega⟩
            · refine ue <| o_alloc (us := [.int .i64 0, .int .i64 0, .slice none 0 0]) rfl fun bp w5 hs5 hbp hBp => ?_
              have hc5 := hc4.trans hs5
              have hz5 := hs5.size
              have hlp := hBp.lt
              refine ⟨hc5, ?_⟩
              refine uP <| ?_
              refine pk <| o_app (news := [.int .i64 ev0]) (L := []) (own_ext hok (hs4.trans hs5)) rfl rfl rfl ((hBl.ext hs5).at (by simp)) (by simp [Value.oneCell']) (by omega) (by omega) fun va w6 hoa ht6 hna => ?_
              have hc6 : Step [] w22 w6 := hc5.then ht6 (fun b hb => .inr (by have := (hgek b hb).1; have := hc0.size; omega))
              have hoa2 := IntsO.snoc (own_base hoa (show w22.heap.size ≤ _ by have := hc0.size; omega))
              have hz6 := ht6.size
              have hBp2 := hBp.step ht6 (fun hb => by have := hgek bp hb; omega)
              refine ⟨hc6, ?_⟩
              have hone := (IntsO.ints (L := []) hoa2 (by simp; omega) (by simp)).one
              have hcel := (IntsO.ints (L := []) hoa2 (by simp; omega) (by simp)).cells
              refine p (fun _ => r_build ⟨rfl, rfl, hcel, trivial⟩) <| ?_
              refine pk <| o_stores (us := [.int .i64 (nxt A.ed ei.e.x ev0), .int .i64 (nxt B.ed ei.e.y ev0), va]) hBp2 rfl rfl rfl rfl ⟨rfl, rfl, hone, trivial⟩ fun wz hsz hBz => ⟨hc6.then1 hsz (by have := hc0.size; omega), pe ?_⟩
              have hna2 : bp ∉ ob va := fun hb => by rcases hna bp hb with h1 | h1; have := hgek bp h1; omega; have := (own_ge hoa bp hb).2; omega
              exact ⟨(bp, va), ⟨rfl, trivial⟩, hc6.then1 hsz (by have := hc0.size; omega), hBz, own_step hoa2 hsz (fun b hb => by simp; exact fun e => hna2 (e ▸ hb)), by have := hc0.size; omega⟩
          · refine ue <| o_alloc (us := [.int .i64 0, .int .i64 0, .slice none 0 0]) rfl fun bp w4 hs4 hbp hBp => ?_
            have hc4 := hc3.trans hs4
            have hz4 := hs4.size
            have hlp := hBp.lt
            refine ⟨hc4, ?_⟩
            refine uP <| ?_
            refine pk <| o_lits (us := [[.int .i64 ev0]]) rfl rfl (by decide) (by simp) ⟨rfl, rfl, trivial⟩ fun bl w5 hs5 hbl hBl => ?_
            have hc5 := hc4.trans hs5
            have hz5 := hs5.size
            have hll := hBl.lt
            refine ⟨hc5, ?_⟩
            refine pk <| o_app (news := [.int .i64 ev0]) (L := []) (own_ext hok (hs4.trans hs5)) rfl rfl rfl (hBl.at (by simp)) (by simp [Value.oneCell']) (by omega) (by omega) fun va w6 hoa ht6 hna => ?_
            have hc6 : Step [] w22 w6 := hc5.then ht6 (fun b hb => .inr (by have := (hgek b hb).1; have := hc0.size; omega))
            have hoa2 := IntsO.snoc (own_base hoa (show w22.heap.size ≤ _ by have := hc0.size; omega))
            have hz6 := ht6.size
            have hBp2 := (hBp.ext hs5).step ht6 (fun hb => by have := hgek bp hb; omega)
            refine ⟨hc6, ?_⟩
            have hone := (IntsO.ints (L := []) hoa2 (by simp; omega) (by simp)).one
            have hcel := (IntsO.ints (L := []) hoa2 (by simp; omega) (by simp)).cells
            refine p (fun _ => r_build ⟨rfl, rfl, hcel, trivial⟩) <| ?_
            refine pk <| o_stores (us := [.int .i64 (nxt A.ed ei.e.x ev0), .int .i64 (nxt B.ed ei.e.y ev0), va]) hBp2 rfl rfl rfl rfl ⟨rfl, rfl, hone, trivial⟩ fun wz hsz hBz => ⟨hc6.then1 hsz (by have := hc0.size; omega), pe ?_⟩
            have hna2 : bp ∉ ob va := fun hb => by rcases hna bp hb with h1 | h1; have := hgek bp h1; omega; have := (own_ge hoa bp hb).2; omega
            exact ⟨(bp, va), ⟨rfl, trivial⟩, hc6.then1 hsz (by have := hc0.size; omega), hBz, own_step hoa2 hsz (fun b hb => by simp; exact fun e => hna2 (e ▸ hb)), by have := hc0.size; omega⟩
        · refine ue <| o_lits (us := [[.int .i64 ev0]]) rfl rfl (by decide) (by simp) ⟨rfl, rfl, trivial⟩ fun bl w3 hs3 hbl hBl => ?_
          have hc3 := hc2.trans hs3
          have hz3 := hs3.size
          have hll := hBl.lt
          refine ⟨hc3, ?_⟩
          refine u2 <| pe ⟨?_, ?_⟩
          · refine ue <| xf <| (clone_ok (hWd.ext hc3)).mono ?_
            rintro vk w4 ⟨hs4, hok⟩
            have hc4 := hc3.trans hs4
            have hz4 := hs4.size
            have hgek := own_ge hok
            refine ⟨hc4, ?_⟩
            refine u2 <| pe ⟨?_, ?_⟩
            · refine ue <| o_app (news := [.int .i64 ev0]) (L := []) hok rfl rfl rfl ((hBl.ext hs4).at (by simp)) (by simp [Value.oneCell']) (by omega) (by omega) fun va w5 hoa ht5 hna => ?_
              have hc5 : Step [] w22 w5 := hc4.then ht5 (fun b hb => .inr (by have := (hgek b hb).1; have := hc0.size; omega))
              have hoa2 := IntsO.snoc (own_base hoa (show w22.heap.size ≤ _ by have := hc0.size; omega))
              have hz5 := ht5.size
              refine ⟨hc5, ?_⟩
              refine uP <| ?_
              have hone := (IntsO.ints (L := []) hoa2 (by simp; omega) (by simp)).one
              have hcel := (IntsO.ints (L := []) hoa2 (by simp; omega) (by simp)).cells
              refine p (fun _ => r_build ⟨rfl, rfl, hcel, trivial⟩) <| ?_
              refine pk <| o_alloc (us := [.int .i64 0, .int .i64 0, .slice none 0 0]) rfl fun bp w6 hs6 hbp hBp => ?_
              have hc6 := hc5.trans hs6
              have hz6 := hs6.size
              have hlp := hBp.lt
              refine ⟨hc6, ?_⟩
              refine pk <| o_stores (us := [.int .i64 (nxt A.ed ei.e.x ev0), .int .i64 (nxt B.ed ei.e.y ev0), va]) hBp rfl rfl rfl rfl ⟨rfl, rfl, hone, trivial⟩ fun wz hsz hBz => ⟨hc6.then1 hsz (by have := hc0.size; omega), pe ?_⟩
              have hna2 : bp ∉ ob va := fun hb => by rcases hna bp hb with h1 | h1; have := hgek bp h1; omega; have := (own_ge hoa bp hb).2; omega
              exact ⟨(bp, va), ⟨rfl, trivial⟩, hc6.then1 hsz (by have := hc0.size; omega), hBz, own_step (own_ext hoa2 hs6) hsz (fun b hb => by simp; exact fun e => hna2 (e ▸ hb)), by have := hc0.size; omega⟩
            · refine ue <| o_alloc (us := [.int .i64 0, .int .i64 0, .slice none 0 0]) rfl fun bp w5 hs5 hbp hBp => ?_
              have hc5 := hc4.trans hs5
              have hz5 := hs5.size
              have hlp := hBp.lt
              refine ⟨hc5, ?_⟩
              refine uP <| ?_
              refine pk <| o_app (news := [.int .i64 ev0]) (L := []) (own_ext hok hs5) rfl rfl rfl ((hBl.ext (hs4.trans hs5)).at (by simp)) (by simp [Value.oneCell']) (by omega) (by omega) fun va w6 hoa ht6 hna => ?_
              have hc6 : Step [] w22 w6 := hc5.then ht6 (fun b hb => .inr (by have := (hgek b hb).1; have := hc0.size; omega))
              have hoa2 := IntsO.snoc (own_base hoa (show w22.heap.size ≤ _ by have := hc0.size; omega))
              have hz6 := ht6.size
              have hBp2 := hBp.step ht6 (fun hb => by have := hgek bp hb; omega)
              refine ⟨hc6, ?_⟩
              have hone := (IntsO.ints (L := []) hoa2 (by simp; omega) (by simp)).one
              have hcel := (IntsO.ints (L := []) hoa2 (by simp; omega) (by simp)).cells
              refine p (fun _ => r_build ⟨rfl, rfl, hcel, trivial⟩) <| ?_
              refine pk <| o_stores (us := [.int .i64 (nxt A.ed ei.e.x ev0), .int .i64 (nxt B.ed ei.e.y ev0), va]) hBp2 rfl rfl rfl rfl ⟨rfl, rfl, hone, trivial⟩ fun wz hsz hBz => ⟨hc6.then1 hsz (by have := hc0.size; omega), pe ?_⟩
              have hna2 : bp ∉ ob va := fun hb => by rcases hna bp hb with h1 | h1; have := hgek bp h1; omega; have := (own_ge hoa bp hb).2; omega
              exact ⟨(bp, va), ⟨rfl, trivial⟩, hc6.then1 hsz (by have := hc0.size; omega), hBz, own_step hoa2 hsz (fun b hb => by simp; exact fun e => hna2 (e ▸ hb)), by have := hc0.size; omega⟩
          · refine ue <| o_alloc (us := [.int .i64 0, .int .i64 0, .slice none 0 0]) rfl fun bp w4 hs4 hbp hBp => ?_
            have hc4 := hc3.trans hs4
            have hz4 := hs4.size
            have hlp := hBp.lt
            refine ⟨hc4, ?_⟩
            refine uP <| ?_
            refine pk <| xf <| (clone_ok (hWd.ext hc4)).mono ?_
            rintro vk w5 ⟨hs5, hok⟩
            have hc5 := hc4.trans hs5
            have hz5 := hs5.size
            have hgek := own_ge hok
            refine ⟨hc5, ?_⟩
            refine pk <| o_app (news := [.int .i64 ev0]) (L := []) hok rfl rfl rfl ((hBl.ext (hs4.trans hs5)).at (by simp)) (by simp [Value.oneCell']) (by omega) (by omega) fun va w6 hoa ht6 hna => ?_
            have hc6 : Step [] w22 w6 := hc5.then ht6 (fun b hb => .inr (by have := (hgek b hb).1; have := hc0.size; omega))
            have hoa2 := IntsO.snoc (own_base hoa (show w22.heap.size ≤ _ by have := hc0.size; omega))
            have hz6 := ht6.size
            have hBp2 := (hBp.ext hs5).step ht6 (fun hb => by have := hgek bp hb; omega)
            refine ⟨hc6, ?_⟩
            have hone := (IntsO.ints (L := []) hoa2 (by simp; omega) (by simp)).one
            have hcel := (IntsO.ints (L := []) hoa2 (by simp; omega) (by simp)).cells
            refine p (fun _ => r_build ⟨rfl, rfl, hcel, trivial⟩) <| ?_
            refine pk <| o_stores (us := [.int .i64 (nxt A.ed ei.e.x ev0), .int .i64 (nxt B.ed ei.e.y ev0), va]) hBp2 rfl rfl rfl rfl ⟨rfl, rfl, hone, trivial⟩ fun wz hsz hBz => ⟨hc6.then1 hsz (by have := hc0.size; omega), pe ?_⟩
            have hna2 : bp ∉ ob va := fun hb => by rcases hna bp hb with h1 | h1; have := hgek bp h1; omega; have := (own_ge hoa bp hb).2; omega
            exact ⟨(bp, va), ⟨rfl, trivial⟩, hc6.then1 hsz (by have := hc0.size; omega), hBz, own_step hoa2 hsz (fun b hb => by simp; exact fun e => hna2 (e ▸ hb)), by have := hc0.size; omega⟩
        · refine ue <| o_alloc (us := [.int .i64 0, .int .i64 0, .slice none 0 0]) rfl fun bp w3 hs3 hbp hBp => ?_
          have hc3 := hc2.trans hs3
          have hz3 := hs3.size
          have hlp := hBp.lt
          refine ⟨hc3, ?_⟩
          refine u2 <| pe ⟨?_, ?_⟩
          · refine ue <| xf <| (clone_ok (hWd.ext hc3)).mono ?_
            rintro vk w4 ⟨hs4, hok⟩
            have hc4 := hc3.trans hs4
            have hz4 := hs4.size
            have hgek := own_ge hok
            refine ⟨hc4, ?_⟩
            refine uP <| ?_
            refine pk <| o_lits (us := [[.int .i64 ev0]]) rfl rfl (by decide) (by simp) ⟨rfl, rfl, trivial⟩ fun bl w5 hs5 hbl hBl => ?_
            have hc5 := hc4.trans hs5
            have hz5 := hs5.size
            have hll := hBl.lt
            refine ⟨hc5, ?_⟩
            refine pk <| o_app (news := [.int .i64 ev0]) (L := []) (own_ext hok hs5) rfl rfl rfl (hBl.at (by simp)) (by simp [Value.oneCell']) (by omega) (by omega) fun va w6 hoa ht6 hna => ?_
            have hc6 : Step [] w22 w6 := hc5.then ht6 (fun b hb => .inr (by have := (hgek b hb).1; have := hc0.size; omega))
            have hoa2 := IntsO.snoc (own_base hoa (show w22.heap.size ≤ _ by have := hc0.size; omega))
            have hz6 := ht6.size
            have hBp2 := (hBp.ext (hs4.trans hs5)).step ht6 (fun hb => by have := hgek bp hb; omega)
            refine ⟨hc6, ?_⟩
            have hone := (IntsO.ints (L := []) hoa2 (by simp; omega) (by simp)).one
            have hcel := (IntsO.ints (L := []) hoa2 (by simp; omega) (by simp)).cells
            refine p (fun _ => r_build ⟨rfl, rfl, hcel, trivial⟩) <| ?_
            refine pk <| o_stores (us := [.int .i64 (nxt A.ed ei.e.x ev0), .int .i64 (nxt B.ed ei.e.y ev0), va]) hBp2 rfl rfl rfl rfl ⟨rfl, rfl, hone, trivial⟩ fun wz hsz hBz => ⟨hc6.then1 hsz (by have := hc0.size; omega), pe ?_⟩
            have hna2 : bp ∉ ob va := fun hb => by rcases hna bp hb with h1 | h1; have := hgek bp h1; omega; have := (own_ge hoa bp hb).2; omega
            exact ⟨(bp, va), ⟨rfl, trivial⟩, hc6.then1 hsz (by have := hc0.size; omega), hBz, own_step hoa2 hsz (fun b hb => by simp; exact fun e => hna2 (e ▸ hb)), by have := hc0.size; omega⟩
          · refine ue <| o_lits (us := [[.int .i64 ev0]]) rfl rfl (by decide) (by simp) ⟨rfl, rfl, trivial⟩ fun bl w4 hs4 hbl hBl => ?_
            have hc4 := hc3.trans hs4
            have hz4 := hs4.size
            have hll := hBl.lt
            refine ⟨hc4, ?_⟩
            refine uP <| ?_
            refine pk <| xf <| (clone_ok (hWd.ext hc4)).mono ?_
            rintro vk w5 ⟨hs5, hok⟩
            have hc5 := hc4.trans hs5
            have hz5 := hs5.size
            have hgek := own_ge hok
            refine ⟨hc5, ?_⟩
            refine pk <| o_app (news := [.int .i64 ev0]) (L := []) hok rfl rfl rfl ((hBl.ext hs5).at (by simp)) (by simp [Value.oneCell']) (by omega) (by omega) fun va w6 hoa ht6 hna => ?_
            have hc6 : Step [] w22 w6 := hc5.then ht6 (fun b hb => .inr (by have := (hgek b hb).1; have := hc0.size; omega))
            have hoa2 := IntsO.snoc (own_base hoa (show w22.heap.size ≤ _ by have := hc0.size; omega))
            have hz6 := ht6.size
            have hBp2 := (hBp.ext (hs4.trans hs5)).step ht6 (fun hb => by have := hgek bp hb; omega)
            refine ⟨hc6, ?_⟩
            have hone := (IntsO.ints (L := []) hoa2 (by simp; omega) (by simp)).one
            have hcel := (IntsO.ints (L := []) hoa2 (by simp; omega) (by simp)).cells
            refine p (fun _ => r_build ⟨rfl, rfl, hcel, trivial⟩) <| ?_
            refine pk <| o_stores (us := [.int .i64 (nxt A.ed ei.e.x ev0), .int .i64 (nxt B.ed ei.e.y ev0), va]) hBp2 rfl rfl rfl rfl ⟨rfl, rfl, hone, trivial⟩ fun wz hsz hBz => ⟨hc6.then1 hsz (by have := hc0.size; omega), pe ?_⟩
            have hna2 : bp ∉ ob va := fun hb => by rcases hna bp hb with h1 | h1; have := hgek bp h1; omega; have := (own_ge hoa bp hb).2; omega
            exact ⟨(bp, va), ⟨rfl, trivial⟩, hc6.then1 hsz (by have := hc0.size; omega), hBz, own_step hoa2 hsz (fun b hb => by simp; exact fun e => hna2 (e ▸ hb)), by have := hc0.size; omega⟩
      · refine ue <| o_lits (us := [[.int .i64 ev0]]) rfl rfl (by decide) (by simp) ⟨rfl, rfl, trivial⟩ fun bl w2 hs2 hbl hBl => ?_
        have hc2 := hc1.trans hs2
        have hz2 := hs2.size
        have hll := hBl.lt
        refine ⟨hc2, ?_⟩
        refine u2 <| pe ⟨?_, ?_⟩
        · refine ue <| xc (first := []) (capt := []) rfl <| (eto_ok (hV.ext hc2) hBs ei.e.y ev0).mono ?_
          rintro r3 w3 ⟨rfl, hs3⟩
          have hc3 := hc2.trans hs3
          have hz3 := hs3.size
          refine ⟨hc3, ?_⟩
          refine u2 <| pe ⟨?_, ?_⟩
          · refine ue <| xf <| (clone_ok (hWd.ext hc3)).mono ?_
            rintro vk w4 ⟨hs4, hok⟩
            have hc4 := hc3.trans hs4
            have hz4 := hs4.size
            have hgek := own_ge hok
            refine ⟨hc4, ?_⟩
            refine u2 <| pe ⟨?_, ?_⟩
            · refine ue <| o_app (news := [.int .i64 ev0]) (L := []) hok rfl rfl rfl ((hBl.ext (hs3.trans hs4)).at (by simp)) (by simp [Value.oneCell']) (by omega) (by omega) fun va w5 hoa ht5 hna => ?_
              have hc5 : Step [] w22 w5 := hc4.then ht5 (fun b hb => .inr (by have := (hgek b hb).1; have := hc0.size; omega))
              have hoa2 := IntsO.snoc (own_base hoa (show w22.heap.size ≤ _ by have := hc0.size; omega))
              have hz5 := ht5.size
              refine ⟨hc5, ?_⟩
              refine uP <| ?_
              have hone := (IntsO.ints (L := []) hoa2 (by simp; omega) (by simp)).one
              have hcel := (IntsO.ints (L := []) hoa2 (by simp; omega) (by simp)).cells
              refine p (fun _ => r_build ⟨rfl, rfl, hcel, trivial⟩) <| ?_
              refine pk <| o_alloc (us := [.int .i64 0, .int .i64 0, .slice none 0 0]) rfl fun bp w6 hs6 hbp hBp => ?_
              have hc6 := hc5.trans hs6
              have hz6 := hs6.size
              have hlp := hBp.lt
              refine ⟨hc6, ?_⟩
              refine pk <| o_stores (us := [.int .i64 (nxt A.ed ei.e.x ev0), .int .i64 (nxt B.ed ei.e.y ev0), va]) hBp rfl rfl rfl rfl ⟨rfl, rfl, hone, trivial⟩ fun wz hsz hBz => ⟨hc6.then1 hsz (by have := hc0.size; omega), pe ?_⟩
              have hna2 : bp ∉ ob va := fun hb => by rcases hna bp hb with h1 | h1; have := hgek bp h1; omega; have := (own_ge hoa bp hb).2; omega
              exact ⟨(bp, va), ⟨rfl, trivial⟩, hc6.then1 hsz (by have := hc0.size; omega), hBz, own_step (own_ext hoa2 hs6) hsz (fun b hb => by simp; exact fun e => hna2 (e ▸ hb)), by have := hc0.size; omega⟩
            · refine ue <| o_alloc (us := [.int .i64 0, .int .i64 0, .slice none 0 0]) rfl fun bp w5 hs5 hbp hBp => ?_
              have hc5 := hc4.trans hs5
              have hz5 := hs5.size
              have hlp := hBp.lt
              refine ⟨hc5, ?_⟩
              refine uP <| ?_
              refine pk <| o_app (news := [.int .i64 ev0]) (L := []) (own_ext hok hs5) rfl rfl rfl ((hBl.ext ((hs3.trans hs4).trans hs5)).at (by simp)) (by simp [Value.oneCell']) (by omega) (by omega) fun va w6 hoa ht6 hna => ?_
              have hc6 : Step [] w22 w6 := hc5.then ht6 (fun b hb => .inr (by have := (hgek b hb).1; have := hc0.size; omega))
              have hoa2 := IntsO.snoc (own_base hoa (show w22.heap.size ≤ _ by have := hc0.size; omega))
              have hz6 := ht6.size
              have hBp2 := hBp.step ht6 (fun hb => by have := hgek bp hb; omega)
              refine ⟨hc6, ?_⟩
              have hone := (IntsO.ints (L := []) hoa2 (by simp; omega) (by simp)).one
              have hcel := (IntsO.ints (L := []) hoa2 (by simp; omega) (by simp)).cells
              refine p (fun _ => r_build ⟨rfl, rfl, hcel, trivial⟩) <| ?_
              refine pk <| o_stores (us := [.int .i64 (nxt A.ed ei.e.x ev0), .int .i64 (nxt B.ed ei.e.y ev0), va]) hBp2 rfl rfl rfl rfl ⟨rfl, rfl, hone, trivial⟩ fun wz hsz hBz => ⟨hc6.then1 hsz (by have := hc0.size; omega), pe ?_⟩
              have hna2 : bp ∉ ob va := fun hb => by rcases hna bp hb with h1 | h1; have := hgek bp h1; omega; have := (own_ge hoa bp hb).2; omega
              exact ⟨(bp, va), ⟨rfl, trivial⟩, hc6.then1 hsz (by have := hc0.size; omega), hBz, own_step hoa2 hsz (fun b hb => by simp; exact fun e => hna2 (e ▸ hb)), by have := hc0.size; omega⟩
          · refine ue <| o_alloc (us := [.int .i64 0, .int .i64 0, .slice none 0 0]) rfl fun bp w4 hs4 hbp hBp => ?_
            have hc4 := hc3.trans hs4
            have hz4 := hs4.size
            have hlp := hBp.lt
            refine ⟨hc4, ?_⟩
            refine uP <| ?_
            refine pk <| xf <| (clone_ok (hWd.ext hc4)).mono ?_
            rintro vk w5 ⟨hs5, hok⟩
            have hc5 := hc4.trans hs5
            have hz5 := hs5.size
            have hgek := own_ge hok
            refine ⟨hc5, ?_⟩
            refine pk <| o_app (news := [.int .i64 ev0]) (L := []) hok rfl rfl rfl ((hBl.ext ((hs3.trans hs4).trans hs5)).at (by simp)) (by simp [Value.oneCell']) (by omega) (by omega) fun va w6 hoa ht6 hna => ?_
            have hc6 : Step [] w22 w6 := hc5.then ht6 (fun b hb => .inr (by have := (hgek b hb).1; have := hc0.size; omega))
            have hoa2 := IntsO.snoc (own_base hoa (show w22.heap.size ≤ _ by have := hc0.size; omega))
            have hz6 := ht6.size
            have hBp2 := (hBp.ext hs5).step ht6 (fun hb => by have := hgek bp hb; omega)
            refine ⟨hc6, ?_⟩
            have hone := (IntsO.ints (L := []) hoa2 (by simp; omega) (by simp)).one
            have hcel := (IntsO.ints (L := []) hoa2 (by simp; omega) (by simp)).cells
            refine p (fun _ => r_build ⟨rfl, rfl, hcel, trivial⟩) <| ?_
            refine pk <| o_stores (us := [.int .i64 (nxt A.ed ei.e.x ev0), .int .i64 (nxt B.ed ei.e.y ev0), va]) hBp2 rfl rfl rfl rfl ⟨rfl, rfl, hone, trivial⟩ fun wz hsz hBz => ⟨hc6.then1 hsz (by have := hc0.size; omega), pe ?_⟩
            have hna2 : bp ∉ ob va := fun hb => by rcases hna bp hb with h1 | h1; have := hgek bp h1; omega; have := (own_ge hoa bp hb).2; omega
            exact ⟨(bp, va), ⟨rfl, trivial⟩, hc6.then1 hsz (by have := hc0.size; omega), hBz, own_step hoa2 hsz (fun b hb => by simp; exact fun e => hna2 (e ▸ hb)), by have := hc0.size; omega⟩
        · refine ue <| o_alloc (us := [.int .i64 0, .int .i64 0, .slice none 0 0]) rfl fun bp w3 hs3 hbp hBp => ?_
          have hc3 := hc2.trans hs3
          have hz3 := hs3.size
          have hlp := hBp.lt
          refine ⟨hc3, ?_⟩
          refine uP <| ?_
          refine pk <| xc (first := []) (capt := []) rfl <| (eto_ok (hV.ext hc3) hBs ei.e.y ev0).mono ?_
          rintro r4 w4 ⟨rfl, hs4⟩
          have hc4 := hc3.trans hs4
          have hz4 := hs4.size
          refine ⟨hc4, ?_⟩
          refine pk <| xf <| (clone_ok (hWd.ext hc4)).mono ?_
          rintro vk w5 ⟨hs5, hok⟩
          have hc5 := hc4.trans hs5
          have hz5 := hs5.size
          have hgek := own_ge hok
          refine ⟨hc5, ?_⟩
          refine pk <| o_app (news := [.int .i64 ev0]) (L := []) hok rfl rfl rfl ((hBl.ext ((hs3.trans hs4).trans hs5)).at (by simp)) (by simp [Value.oneCell']) (by omega) (by omega) fun va w6 hoa ht6 hna => ?_
          have hc6 : Step [] w22 w6 := hc5.then ht6 (fun b hb => .inr (by have := (hgek b hb).1; have := hc0.size; omega))
          have hoa2 := IntsO.snoc (own_base hoa (show w22.heap.size ≤ _ by have := hc0.size; omega))
          have hz6 := ht6.size
          have hBp2 := (hBp.ext (hs4.trans hs5)).step ht6 (fun hb => by have := hgek bp hb; omega)
          refine ⟨hc6, ?_⟩
          have hone := (IntsO.ints (L := []) hoa2 (by simp; omega) (by simp)).one
          have hcel := (IntsO.ints (L := []) hoa2 (by simp; omega) (by simp)).cells
          refine p (fun _ => r_build ⟨rfl, rfl, hcel, trivial⟩) <| ?_
          refine pk <| o_stores (us := [.int .i64 (nxt A.ed ei.e.x ev0), .int .i64 (nxt B.ed ei.e.y ev0), va]) hBp2 rfl rfl rfl rfl ⟨rfl, rfl, hone, trivial⟩ fun wz hsz hBz => ⟨hc6.then1 hsz (by have := hc0.size; omega), pe ?_⟩
          have hna2 : bp ∉ ob va := fun hb => by rcases hna bp hb with h1 | h1; have := hgek bp h1; omega; have := (own_ge hoa bp hb).2; omega
          exact ⟨(bp, va), ⟨rfl, trivial⟩, hc6.then1 hsz (by have := hc0.size; omega), hBz, own_step hoa2 hsz (fun b hb => by simp; exact fun e => hna2 (e ▸ hb)), by have := hc0.size; omega⟩
      · refine ue <| o_alloc (us := [.int .i64 0, .int .i64 0, .slice none 0 0]) rfl fun bp w2 hs2 hbp hBp => ?_
        have hc2 := hc1.trans hs2
        have hz2 := hs2.size
        have hlp := hBp.lt
        refine ⟨hc2, ?_⟩
        refine u2 <| pe ⟨?_, ?_⟩
        · refine ue <| xc (first := []) (capt := []) rfl <| (eto_ok (hV.ext hc2) hBs ei.e.y ev0).mono ?_
          rintro r3 w3 ⟨rfl, hs3⟩
          have hc3 := hc2.trans hs3
          have hz3 := hs3.size
          refine ⟨hc3, ?_⟩
          refine u2 <| pe ⟨?_, ?_⟩
          · refine ue <| xf <| (clone_ok (hWd.ext hc3)).mono ?_
            rintro vk w4 ⟨hs4, hok⟩
            have hc4 := hc3.trans hs4
            have hz4 := hs4.size
            have hgek := own_ge hok
            refine ⟨hc4, ?_⟩
            refine uP <| ?_
            refine pk <| o_lits (us := [[.int .i64 ev0]]) rfl rfl (by decide) (by simp) ⟨rfl, rfl, trivial⟩ fun bl w5 hs5 hbl hBl => ?_
            have hc5 := hc4.trans hs5
            have hz5 := hs5.size
            have hll := hBl.lt
            refine ⟨hc5, ?_⟩
            refine pk <| o_app (news := [.int .i64 ev0]) (L := []) (own_ext hok hs5) rfl rfl rfl (hBl.at (by simp)) (by simp [Value.oneCell']) (by omega) (by omega) fun va w6 hoa ht6 hna => ?_
            have hc6 : Step [] w22 w6 := hc5.then ht6 (fun b hb => .inr (by have := (hgek b hb).1; have := hc0.size; omega))
            have hoa2 := IntsO.snoc (own_base hoa (show w22.heap.size ≤ _ by have := hc0.size; omega))
            have hz6 := ht6.size
            have hBp2 := (hBp.ext ((hs3.trans hs4).trans hs5)).step ht6 (fun hb => by have := hgek bp hb; omega)
            refine ⟨hc6, ?_⟩
            have hone := (IntsO.ints (L := []) hoa2 (by simp; omega) (by simp)).one
            have hcel := (IntsO.ints (L := []) hoa2 (by simp; omega) (by simp)).cells
            refine p (fun _ => r_build ⟨rfl, rfl, hcel, trivial⟩) <| ?_
            refine pk <| o_stores (us := [.int .i64 (nxt A.ed ei.e.x ev0), .int .i64 (nxt B.ed ei.e.y ev0), va]) hBp2 rfl rfl rfl rfl ⟨rfl, rfl, hone, trivial⟩ fun wz hsz hBz => ⟨hc6.then1 hsz (by have := hc0.size; omega), pe ?_⟩
            have hna2 : bp ∉ ob va := fun hb => by rcases hna bp hb with h1 | h1; have := hgek bp h1; omega; have := (own_ge hoa bp hb).2; omega
            exact ⟨(bp, va), ⟨rfl, trivial⟩, hc6.then1 hsz (by have := hc0.size; omega), hBz, own_step hoa2 hsz (fun b hb => by simp; exact fun e => hna2 (e ▸ hb)), by have := hc0.size; omega⟩
          · refine ue <| o_lits (us := [[.int .i64 ev0]]) rfl rfl (by decide) (by simp) ⟨rfl, rfl, trivial⟩ fun bl w4 hs4 hbl hBl => ?_
            have hc4 := hc3.trans hs4
            have hz4 := hs4.size
            have hll := hBl.lt
            refine ⟨hc4, ?_⟩
            refine uP <| ?_
            refine pk <| xf <| (clone_ok (hWd.ext hc4)).mono ?_
            rintro vk w5 ⟨hs5, hok⟩
            have hc5 := hc4.trans hs5
            have hz5 := hs5.size
            have hgek := own_ge hok
            refine ⟨hc5, ?_⟩
            refine pk <| o_app (news := [.int .i64 ev0]) (L := []) hok rfl rfl rfl ((hBl.ext hs5).at (by simp)) (by simp [Value.oneCell']) (by omega) (by omega) fun va w6 hoa ht6 hna => ?_
            have hc6 : Step [] w22 w6 := hc5.then ht6 (fun b hb => .inr (by have := (hgek b hb).1; have := hc0.size; omega))
            have hoa2 := IntsO.snoc (own_base hoa (show w22.heap.size ≤ _ by have := hc0.size; omega))
            have hz6 := ht6.size
            have hBp2 := (hBp.ext ((hs3.trans hs4).trans hs5)).step ht6 (fun hb => by have := hgek bp hb; omega)
            refine ⟨hc6, ?_⟩
            have hone := (IntsO.ints (L := []) hoa2 (by simp; omega) (by simp)).one
            have hcel := (IntsO.ints (L := []) hoa2 (by simp; omega) (by simp)).cells
            refine p (fun _ => r_build ⟨rfl, rfl, hcel, trivial⟩) <| ?_
            refine pk <| o_stores (us := [.int .i64 (nxt A.ed ei.e.x ev0), .int .i64 (nxt B.ed ei.e.y ev0), va]) hBp2 rfl rfl rfl rfl ⟨rfl, rfl, hone, trivial⟩ fun wz hsz hBz => ⟨hc6.then1 hsz (by have := hc0.size; omega), pe ?_⟩
            have hna2 : bp ∉ ob va := fun hb => by rcases hna bp hb with h1 | h1; have := hgek bp h1; omega; have := (own_ge hoa bp hb).2; omega
            exact ⟨(bp, va), ⟨rfl, trivial⟩, hc6.then1 hsz (by have := hc0.size; omega), hBz, own_step hoa2 hsz (fun b hb => by simp; exact fun e => hna2 (e ▸ hb)), by have := hc0.size; omega⟩
        · refine ue <| o_lits (us := [[.int .i64 ev0]]) rfl rfl (by decide) (by simp) ⟨rfl, rfl, trivial⟩ fun bl w3 hs3 hbl hBl => ?_
          have hc3 := hc2.trans hs3
          have hz3 := hs3.size
          have hll := hBl.lt
          refine ⟨hc3, ?_⟩
          refine uP <| ?_
          refine pk <| xc (first := []) (capt := []) rfl <| (eto_ok (hV.ext hc3) hBs ei.e.y ev0).mono ?_
          rintro r4 w4 ⟨rfl, hs4⟩
          have hc4 := hc3.trans hs4
          have hz4 := hs4.size
          refine ⟨hc4, ?_⟩
          refine pk <| xf <| (clone_ok (hWd.ext hc4)).mono ?_
          rintro vk w5 ⟨hs5, hok⟩
          have hc5 := hc4.trans hs5
          have hz5 := hs5.size
          have hgek := own_ge hok
          refine ⟨hc5, ?_⟩
          refine pk <| o_app (news := [.int .i64 ev0]) (L := []) hok rfl rfl rfl ((hBl.ext (hs4.trans hs5)).at (by simp)) (by simp [Value.oneCell']) (by omega) (by omega) fun va w6 hoa ht6 hna => ?_
          have hc6 : Step [] w22 w6 := hc5.then ht6 (fun b hb => .inr (by have := (hgek b hb).1; have := hc0.size; omega))
          have hoa2 := IntsO.snoc (own_base hoa (show w22.heap.size ≤ _ by have := hc0.size; omega))
          have hz6 := ht6.size
          have hBp2 := (hBp.ext ((hs3.trans hs4).trans hs5)).step ht6 (fun hb => by have := hgek bp hb; omega)
          refine ⟨hc6, ?_⟩
          have hone := (IntsO.ints (L := []) hoa2 (by simp; omega) (by simp)).one
          have hcel := (IntsO.ints (L := []) hoa2 (by simp; omega) (by simp)).cells
          refine p (fun _ => r_build ⟨rfl, rfl, hcel, trivial⟩) <| ?_
          refine pk <| o_stores (us := [.int .i64 (nxt A.ed ei.e.x ev0), .int .i64 (nxt B.ed ei.e.y ev0), va]) hBp2 rfl rfl rfl rfl ⟨rfl, rfl, hone, trivial⟩ fun wz hsz hBz => ⟨hc6.then1 hsz (by have := hc0.size; omega), pe ?_⟩
          have hna2 : bp ∉ ob va := fun hb => by rcases hna bp hb with h1 | h1; have := hgek bp h1; omega; have := (own_ge hoa bp hb).2; omega
          exact ⟨(bp, va), ⟨rfl, trivial⟩, hc6.then1 hsz (by have := hc0.size; omega), hBz, own_step hoa2 hsz (fun b hb => by simp; exact fun e => hna2 (e ▸ hb)), by have := hc0.size; omega⟩
    · refine ue <| o_lits (us := [[.int .i64 ev0]]) rfl rfl (by decide) (by simp) ⟨rfl, rfl, trivial⟩ fun bl w1 hs1 hbl hBl => ?_
      have hc1 := hc0.trans hs1
      have hz1 := hs1.size
      have hll := hBl.lt
      refine ⟨hc1, ?_⟩
      refine u2 <| pe ⟨?_, ?_⟩
      · refine ue <| xc (first := []) (capt := []) rfl <| (eto_ok (hU.ext hc1) hAs ei.e.x ev0).mono ?_
        rintro r2 w2 ⟨rfl, hs2⟩
        have hc2 := hc1.trans hs2
        have hz2 := hs2.size
        refine ⟨hc2, ?_⟩
        refine u2 <| pe ⟨?_, ?_⟩
        · refine ue <| xc (first := []) (capt := []) rfl <| (eto_ok (hV.ext hc2) hBs ei.e.y ev0).mono ?_
          rintro r3 w3 ⟨rfl, hs3⟩
          have hc3 := hc2.trans hs3
          have hz3 := hs3.size
          refine ⟨hc3, ?_⟩
          refine u2 <| pe ⟨?_, ?_⟩
          · refine ue <| xf <| (clone_ok (hWd.ext hc3)).mono ?_
            rintro vk w4 ⟨hs4, hok⟩
            have hc4 := hc3.trans hs4
            have hz4 := hs4.size
            have hgek := own_ge hok
            refine ⟨hc4, ?_⟩
            refine u2 <| pe ⟨?_, ?_⟩
            · refine ue <| o_app (news := [.int .i64 ev0]) (L := []) hok rfl rfl rfl ((hBl.ext ((hs2.trans hs3).trans hs4)).at (by simp)) (by simp [Value.oneCell']) (by omega) (by omega) fun va w5 hoa ht5 hna => ?_
              have hc5 : Step [] w22 w5 := hc4.then ht5 (fun b hb => .inr (by have := (hgek b hb).1; have := hc0.size; omega))
              have hoa2 := IntsO.snoc (own_base hoa (show w22.heap.size ≤ _ by have := hc0.size; omega))
              have hz5 := ht5.size
              refine ⟨hc5, ?_⟩
              refine uP <| ?_
              have hone := (IntsO.ints (L := []) hoa2 (by simp; omega) (by simp)).one
              have hcel := (IntsO.ints (L := []) hoa2 (by simp; omega) (by simp)).cells
              refine p (fun _ => r_build ⟨rfl, rfl, hcel, trivial⟩) <| ?_
              refine pk <| o_alloc (us := [.int .i64 0, .int .i64 0, .slice none 0 0]) rfl fun bp w6 hs6 hbp hBp => ?_
              have hc6 := hc5.trans hs6
              have hz6 := hs6.size
              have hlp := hBp.lt
              refine ⟨hc6, ?_⟩
              refine pk <| o_stores (us := [.int .i64 (nxt A.ed ei.e.x ev0), .int .i64 (nxt B.ed ei.e.y ev0), va]) hBp rfl rfl rfl rfl ⟨rfl, rfl, hone, trivial⟩ fun wz hsz hBz => ⟨hc6.then1 hsz (by have := hc0.size; omega), pe ?_⟩
              have hna2 : bp ∉ ob va := fun hb => by rcases hna bp hb with h1 | h1; have := hgek bp h1; omega; have := (own_ge hoa bp hb).2; omega
              exact ⟨(bp, va), ⟨rfl, trivial⟩, hc6.then1 hsz (by have := hc0.size; omega), hBz, own_step (own_ext hoa2 hs6) hsz (fun b hb => by simp; exact fun e => hna2 (e ▸ hb)), by have := hc0.size; omega⟩
            · refine ue <| o_alloc (us := [.int .i64 0, .int .i64 0, .slice none 0 0]) rfl fun bp w5 hs5 hbp hBp => ?_
              have hc5 := hc4.trans hs5
              have hz5 := hs5.size
              have hlp := hBp.lt
              refine ⟨hc5, ?_⟩
              refine uP <| ?_
              refine pk <| o_app (news := [.int .i64 ev0]) (L := []) (own_ext hok hs5) rfl rfl rfl ((hBl.ext (((hs2.trans hs3).trans hs4).trans hs5)).at (by simp)) (by simp [Value.oneCell']) (by omega) (by omega) fun va w6 hoa ht6 hna => ?_
              have hc6 : Step [] w22 w6 := hc5.then ht6 (fun b hb => .inr (by have := (hgek b hb).1; have := hc0.size; omega))
              have hoa2 := IntsO.snoc (own_base hoa (show w22.heap.size ≤ _ by have := hc0.size; omega))
              have hz6 := ht6.size
              have hBp2 := hBp.step ht6 (fun hb => by have := hgek bp hb; omega)
              refine ⟨hc6, ?_⟩
              have hone := (IntsO.ints (L := []) hoa2 (by simp; omega) (by simp)).one
              have hcel := (IntsO.ints (L := []) hoa2 (by simp; omega) (by simp)).cells
              refine p (fun _ => r_build ⟨rfl, rfl, hcel, trivial⟩) <| ?_
              refine pk <| o_stores (us := [.int .i64 (nxt A.ed ei.e.x ev0), .int .i64 (nxt B.ed ei.e.y ev0), va]) hBp2 rfl rfl rfl rfl ⟨rfl, rfl, hone, trivial⟩ fun wz hsz hBz => ⟨hc6.then1 hsz (by have := hc0.size; omega), pe ?_⟩
              have hna2 : bp ∉ ob va := fun hb => by rcases hna bp hb with h1 | h1; have := hgek bp h1; omega; have := (own_ge hoa bp hb).2; omega
              exact ⟨(bp, va), ⟨rfl, trivial⟩, hc6.then1 hsz (by have := hc0.size; omega), hBz, own_step hoa2 hsz (fun b hb => by simp; exact fun e => hna2 (e ▸ hb)), by have := hc0.size; omega⟩
          · refine ue <| o_alloc (us := [.int .i64 0, .int .i64 0, .slice none 0 0]) rfl fun bp w4 hs4 hbp hBp => ?_
            have hc4 := hc3.trans hs4
            have hz4 := hs4.size
            have hlp := hBp.lt
            refine ⟨hc4, ?_⟩
            refine uP <| ?_
            refine pk <| xf <| (clone_ok (hWd.ext hc4)).mono ?_
            rintro vk w5 ⟨hs5, hok⟩
            have hc5 := hc4.trans hs5
            have hz5 := hs5.size
            have hgek := own_ge hok
            refine ⟨hc5, ?_⟩
            refine pk <| o_app (news := [.int .i64 ev0]) (L := []) hok rfl rfl rfl ((hBl.ext (((hs2.trans hs3).trans hs4).trans hs5)).at (by simp)) (by simp [Value.oneCell']) (by omega) (by omega) fun va w6 hoa ht6 hna => ?_
            have hc6 : Step [] w22 w6 := hc5.then ht6 (fun b hb => .inr (by have := (hgek b hb).1; have := hc0.size; omega))
            have hoa2 := IntsO.snoc (own_base hoa (show w22.heap.size ≤ _ by have := hc0.size; omega))
            have hz6 := ht6.size
            have hBp2 := (hBp.ext hs5).step ht6 (fun hb => by have := hgek bp hb; omega)
            refine ⟨hc6, ?_⟩
            have hone := (IntsO.ints (L := []) hoa2 (by simp; omega) (by simp)).one
            have hcel := (IntsO.ints (L := []) hoa2 (by simp; omega) (by simp)).cells
            refine p (fun _ => r_build ⟨rfl, rfl, hcel, trivial⟩) <| ?_
            refine pk <| o_stores (us := [.int .i64 (nxt A.ed ei.e.x ev0), .int .i64 (nxt B.ed ei.e.y ev0), va]) hBp2 rfl rfl rfl rfl ⟨rfl, rfl, hone, trivial⟩ fun wz hsz hBz => ⟨hc6.then1 hsz (by have := hc0.size; omega), pe ?_⟩
            have hna2 : bp ∉ ob va := fun hb => by rcases hna bp hb with h1 | h1; have := hgek bp h1; omega; have := (own_ge hoa bp hb).2; omega
            exact ⟨(bp, va), ⟨rfl, trivial⟩, hc6.then1 hsz (by have := hc0.size; omega), hBz, own_step hoa2 hsz (fun b hb => by simp; exact fun e => hna2 (e ▸ hb)), by have := hc0.size; omega⟩
        · refine ue <| o_alloc (us := [.int .i64 0, .int .i64 0, .slice none 0 0]) rfl fun bp w3 hs3 hbp hBp => ?_
          have hc3 := hc2.trans hs3
          have hz3 := hs3.size
          have hlp := hBp.lt
          refine ⟨hc3, ?_⟩
          refine uP <| ?_
          refine pk <| xc (first := []) (capt := []) rfl <| (eto_ok (hV.ext hc3) hBs ei.e.y ev0).mono ?_
          rintro r4 w4 ⟨rfl, hs4⟩
          have hc4 := hc3.trans hs4
          have hz4 := hs4.size
          refine ⟨hc4, ?_⟩
          refine pk <| xf <| (clone_ok (hWd.ext hc4)).mono ?_
          rintro vk w5 ⟨hs5, hok⟩
          have hc5 := hc4.trans hs5
          have hz5 := hs5.size
          have hgek := own_ge hok
          refine ⟨hc5, ?_⟩
          refine pk <| o_app (news := [.int .i64 ev0]) (L := []) hok rfl rfl rfl ((hBl.ext (((hs2.trans hs3).trans hs4).trans hs5)).at (by simp)) (by simp [Value.oneCell']) (by omega) (by omega) fun va w6 hoa ht6 hna => ?_
          have hc6 : Step [] w22 w6 := hc5.then ht6 (fun b hb => .inr (by have := (hgek b hb).1; have := hc0.size; omega))
          have hoa2 := IntsO.snoc (own_base hoa (show w22.heap.size ≤ _ by have := hc0.size; omega))
          have hz6 := ht6.size
          have hBp2 := (hBp.ext (hs4.trans hs5)).step ht6 (fun hb => by have := hgek bp hb; omega)
          refine ⟨hc6, ?_⟩
          have hone := (IntsO.ints (L := []) hoa2 (by simp; omega) (by simp)).one
          have hcel := (IntsO.ints (L := []) hoa2 (by simp; omega) (by simp)).cells
          refine p (fun _ => r_build ⟨rfl, rfl, hcel, trivial⟩) <| ?_
          refine pk <| o_stores (us := [.int .i64 (nxt A.ed ei.e.x ev0), .int .i64 (nxt B.ed ei.e.y ev0), va]) hBp2 rfl rfl rfl rfl ⟨rfl, rfl, hone, trivial⟩ fun wz hsz hBz => ⟨hc6.then1 hsz (by have := hc0.size; omega), pe ?_⟩
          have hna2 : bp ∉ ob va := fun hb => by rcases hna bp hb with h1 | h1; have := hgek bp h1; omega; have := (own_ge hoa bp hb).2; omega
          exact ⟨(bp, va), ⟨rfl, trivial⟩, hc6.then1 hsz (by have := hc0.size; omega), hBz, own_step hoa2 hsz (fun b hb => by simp; exact fun e => hna2 (e ▸ hb)), by have := hc0.size; omega⟩
      · refine ue <| o_alloc (us := [.int .i64 0, .int .i64 0, .slice none 0 0]) rfl fun bp w2 hs2 hbp hBp => ?_
        have hc2 := hc1.trans hs2
        have hz2 := hs2.size
        have hlp := hBp.lt
        refine ⟨hc2, ?_⟩
        refine uP <| ?_
        refine pk <| xc (first := []) (capt := []) rfl <| (eto_ok (hU.ext hc2) hAs ei.e.x ev0).mono ?_
        rintro r3 w3 ⟨rfl, hs3⟩
        have hc3 := hc2.trans hs3
        have hz3 := hs3.size
        refine ⟨hc3, ?_⟩
        refine pk <| xc (first := []) (capt := []) rfl <| (eto_ok (hV.ext hc3) hBs ei.e.y ev0).mono ?_
        rintro r4 w4 ⟨rfl, hs4⟩
        have hc4 := hc3.trans hs4
        have hz4 := hs4.size
        refine ⟨hc4, ?_⟩
        refine pk <| xf <| (clone_ok (hWd.ext hc4)).mono ?_
        rintro vk w5 ⟨hs5, hok⟩
        have hc5 := hc4.trans hs5
        have hz5 := hs5.size
        have hgek := own_ge hok
        refine ⟨hc5, ?_⟩
        refine pk <| o_app (news := [.int .i64 ev0]) (L := []) hok rfl rfl rfl ((hBl.ext (((hs2.trans hs3).trans hs4).trans hs5)).at (by simp)) (by simp [Value.oneCell']) (by omega) (by omega) fun va w6 hoa ht6 hna => ?_
        have hc6 : Step [] w22 w6 := hc5.then ht6 (fun b hb => .inr (by have := (hgek b hb).1; have := hc0.size; omega))
        have hoa2 := IntsO.snoc (own_base hoa (show w22.heap.size ≤ _ by have := hc0.size; omega))
        have hz6 := ht6.size
        have hBp2 := (hBp.ext ((hs3.trans hs4).trans hs5)).step ht6 (fun hb => by have := hgek bp hb; omega)
        refine ⟨hc6, ?_⟩
        have hone := (IntsO.ints (L := []) hoa2 (by simp; omega) (by simp)).one
        have hcel := (IntsO.ints (L := []) hoa2 (by simp; omega) (by simp)).cells
        refine p (fun _ => r_build ⟨rfl, rfl, hcel, trivial⟩) <| ?_
        refine pk <| o_stores (us := [.int .i64 (nxt A.ed ei.e.x ev0), .int .i64 (nxt B.ed ei.e.y ev0), va]) hBp2 rfl rfl rfl rfl ⟨rfl, rfl, hone, trivial⟩ fun wz hsz hBz => ⟨hc6.then1 hsz (by have := hc0.size; omega), pe ?_⟩
        have hna2 : bp ∉ ob va := fun hb => by rcases hna bp hb with h1 | h1; have := hgek bp h1; omega; have := (own_ge hoa bp hb).2; omega
        exact ⟨(bp, va), ⟨rfl, trivial⟩, hc6.then1 hsz (by have := hc0.size; omega), hBz, own_step hoa2 hsz (fun b hb => by simp; exact fun e => hna2 (e ▸ hb)), by have := hc0.size; omega⟩
    · refine ue <| o_alloc (us := [.int .i64 0, .int .i64 0, .slice none 0 0]) rfl fun bp w1 hs1 hbp hBp => ?_
      have hc1 := hc0.trans hs1
      have hz1 := hs1.size
      have hlp := hBp.lt
      refine ⟨hc1, ?_⟩
      refine u2 <| pe ⟨?_, ?_⟩
      · refine ue <| xc (first := []) (capt := []) rfl <| (eto_ok (hU.ext hc1) hAs ei.e.x ev0).mono ?_
        rintro r2 w2 ⟨rfl, hs2⟩
        have hc2 := hc1.trans hs2
        have hz2 := hs2.size
        refine ⟨hc2, ?_⟩
        refine u2 <| pe ⟨?_, ?_⟩
        · refine ue <| xc (first := []) (capt := []) rfl <| (eto_ok (hV.ext hc2) hBs ei.e.y ev0).mono ?_
          rintro r3 w3 ⟨rfl, hs3⟩
          have hc3 := hc2.trans hs3
          have hz3 := hs3.size
          refine ⟨hc3, ?_⟩
          refine u2 <| pe ⟨?_, ?_⟩
          · refine ue <| xf <| (clone_ok (hWd.ext hc3)).mono ?_
            rintro vk w4 ⟨hs4, hok⟩
            have hc4 := hc3.trans hs4
            have hz4 := hs4.size
            have hgek := own_ge hok
            refine ⟨hc4, ?_⟩
            refine uP <| ?_
            refine pk <| o_lits (us := [[.int .i64 ev0]]) rfl rfl (by decide) (by simp) ⟨rfl, rfl, trivial⟩ fun bl w5 hs5 hbl hBl => ?_
            have hc5 := hc4.trans hs5
            have hz5 := hs5.size
            have hll := hBl.lt
            refine ⟨hc5, ?_⟩
            refine pk <| o_app (news := [.int .i64 ev0]) (L := []) (own_ext hok hs5) rfl rfl rfl (hBl.at (by simp)) (by simp [Value.oneCell']) (by omega) (by omega) fun va w6 hoa ht6 hna => ?_
            have hc6 : Step [] w22 w6 := hc5.then ht6 (fun b hb => .inr (by have := (hgek b hb).1; have := hc0.size; omega))
            have hoa2 := IntsO.snoc (own_base hoa (show w22.heap.size ≤ _ by have := hc0.size; omega))
            have hz6 := ht6.size
            have hBp2 := (hBp.ext (((hs2.trans hs3).trans hs4).trans hs5)).step ht6 (fun hb => by have := hgek bp hb; omega)
            refine ⟨hc6, ?_⟩
            have hone := (IntsO.ints (L := []) hoa2 (by simp; omega) (by simp)).one
            have hcel := (IntsO.ints (L := []) hoa2 (by simp; omega) (by simp)).cells
            refine p (fun _ => r_build ⟨rfl, rfl, hcel, trivial⟩) <| ?_
            refine pk <| o_stores (us := [.int .i64 (nxt A.ed ei.e.x ev0), .int .i64 (nxt B.ed ei.e.y ev0), va]) hBp2 rfl rfl rfl rfl ⟨rfl, rfl, hone, trivial⟩ fun wz hsz hBz => ⟨hc6.then1 hsz (by have := hc0.size; omega), pe ?_⟩
            have hna2 : bp ∉ ob va := fun hb => by rcases hna bp hb with h1 | h1; have := hgek bp h1; omega; have := (own_ge hoa bp hb).2; omega
            exact ⟨(bp, va), ⟨rfl, trivial⟩, hc6.then1 hsz (by have := hc0.size; omega), hBz, own_step hoa2 hsz (fun b hb => by simp; exact fun e => hna2 (e ▸ hb)), by have := hc0.size; omega⟩
          · refine ue <| o_lits (us := [[.int .i64 ev0]]) rfl rfl (by decide) (by simp) ⟨rfl, rfl, trivial⟩ fun bl w4 hs4 hbl hBl => ?_
            have hc4 := hc3.trans hs4
            have hz4 := hs4.size
            have hll := hBl.lt
            refine ⟨hc4, ?_⟩
            refine uP <| ?_
            refine pk <| xf <| (clone_ok (hWd.ext hc4)).mono ?_
            rintro vk w5 ⟨hs5, hok⟩
            have hc5 := hc4.trans hs5
            have hz5 := hs5.size
            have hgek := own_ge hok
            refine ⟨hc5, ?_⟩
            refine pk <| o_app (news := [.int .i64 ev0]) (L := []) hok rfl rfl rfl ((hBl.ext hs5).at (by simp)) (by simp [Value.oneCell']) (by omega) (by omega) fun va w6 hoa ht6 hna => ?_
            have hc6 : Step [] w22 w6 := hc5.then ht6 (fun b hb => .inr (by have := (hgek b hb).1; have := hc0.size; omega))
            have hoa2 := IntsO.snoc (own_base hoa (show w22.heap.size ≤ _ by have := hc0.size; omega))
            have hz6 := ht6.size
            have hBp2 := (hBp.ext (((hs2.trans hs3).trans hs4).trans hs5)).step ht6 (fun hb => by have := hgek bp hb; omega)
            refine ⟨hc6, ?_⟩
            have hone := (IntsO.ints (L := []) hoa2 (by simp; omega) (by simp)).one
            have hcel := (IntsO.ints (L := []) hoa2 (by simp; omega) (by simp)).cells
            refine p (fun _ => r_build ⟨rfl, rfl, hcel, trivial⟩) <| ?_
            refine pk <| o_stores (us := [.int .i64 (nxt A.ed ei.e.x ev0), .int .i64 (nxt B.ed ei.e.y ev0), va]) hBp2 rfl rfl rfl rfl ⟨rfl, rfl, hone, trivial⟩ fun wz hsz hBz => ⟨hc6.then1 hsz (by have := hc0.size; omega), pe ?_⟩
            have hna2 : bp ∉ ob va := fun hb => by rcases hna bp hb with h1 | h1; have := hgek bp h1; omega; have := (own_ge hoa bp hb).2; omega
            exact ⟨(bp, va), ⟨rfl, trivial⟩, hc6.then1 hsz (by have := hc0.size; omega), hBz, own_step hoa2 hsz (fun b hb => by simp; exact fun e => hna2 (e ▸ hb)), by have := hc0.size; omega⟩
        · refine ue <| o_lits (us := [[.int .i64 ev0]]) rfl rfl (by decide) (by simp) ⟨rfl, rfl, trivial⟩ fun bl w3 hs3 hbl hBl => ?_
          have hc3 := hc2.trans hs3
          have hz3 := hs3.size
          have hll := hBl.lt
          refine ⟨hc3, ?_⟩
          refine uP <| ?_
          refine pk <| xc (first := []) (capt := []) rfl <| (eto_ok (hV.ext hc3) hBs ei.e.y ev0).mono ?_
          rintro r4 w4 ⟨rfl, hs4⟩
          have hc4 := hc3.trans hs4
          have hz4 := hs4.size
          refine ⟨hc4, ?_⟩
          refine pk <| xf <| (clone_ok (hWd.ext hc4)).mono ?_
          rintro vk w5 ⟨hs5, hok⟩
          have hc5 := hc4.trans hs5
          have hz5 := hs5.size
          have hgek := own_ge hok
          refine ⟨hc5, ?_⟩
          refine pk <| o_app (news := [.int .i64 ev0]) (L := []) hok rfl rfl rfl ((hBl.ext (hs4.trans hs5)).at (by simp)) (by simp [Value.oneCell']) (by omega) (by omega) fun va w6 hoa ht6 hna => ?_
          have hc6 : Step [] w22 w6 := hc5.then ht6 (fun b hb => .inr (by have := (hgek b hb).1; have := hc0.size; omega))
          have hoa2 := IntsO.snoc (own_base hoa (show w22.heap.size ≤ _ by have := hc0.size; omega))
          have hz6 := ht6.size
          have hBp2 := (hBp.ext (((hs2.trans hs3).trans hs4).trans hs5)).step ht6 (fun hb => by have := hgek bp hb; omega)
          refine ⟨hc6, ?_⟩
          have hone := (IntsO.ints (L := []) hoa2 (by simp; omega) (by simp)).one
          have hcel := (IntsO.ints (L := []) hoa2 (by simp; omega) (by simp)).cells
          refine p (fun _ => r_build ⟨rfl, rfl, hcel, trivial⟩) <| ?_
          refine pk <| o_stores (us := [.int .i64 (nxt A.ed ei.e.x ev0), .int .i64 (nxt B.ed ei.e.y ev0), va]) hBp2 rfl rfl rfl rfl ⟨rfl, rfl, hone, trivial⟩ fun wz hsz hBz => ⟨hc6.then1 hsz (by have := hc0.size; omega), pe ?_⟩
          have hna2 : bp ∉ ob va := fun hb => by rcases hna bp hb with h1 | h1; have := hgek bp h1; omega; have := (own_ge hoa bp hb).2; omega
          exact ⟨(bp, va), ⟨rfl, trivial⟩, hc6.then1 hsz (by have := hc0.size; omega), hBz, own_step hoa2 hsz (fun b hb => by simp; exact fun e => hna2 (e ▸ hb)), by have := hc0.size; omega⟩
      · refine ue <| o_lits (us := [[.int .i64 ev0]]) rfl rfl (by decide) (by simp) ⟨rfl, rfl, trivial⟩ fun bl w2 hs2 hbl hBl => ?_
        have hc2 := hc1.trans hs2
        have hz2 := hs2.size
        have hll := hBl.lt
        refine ⟨hc2, ?_⟩
        refine uP <| ?_
        refine pk <| xc (first := []) (capt := []) rfl <| (eto_ok (hU.ext hc2) hAs ei.e.x ev0).mono ?_
        rintro r3 w3 ⟨rfl, hs3⟩
        have hc3 := hc2.trans hs3
        have hz3 := hs3.size
        refine ⟨hc3, ?_⟩
        refine pk <| xc (first := []) (capt := []) rfl <| (eto_ok (hV.ext hc3) hBs ei.e.y ev0).mono ?_
        rintro r4 w4 ⟨rfl, hs4⟩
        have hc4 := hc3.trans hs4
        have hz4 := hs4.size
        refine ⟨hc4, ?_⟩
        refine pk <| xf <| (clone_ok (hWd.ext hc4)).mono ?_
        rintro vk w5 ⟨hs5, hok⟩
        have hc5 := hc4.trans hs5
        have hz5 := hs5.size
        have hgek := own_ge hok
        refine ⟨hc5, ?_⟩
        refine pk <| o_app (news := [.int .i64 ev0]) (L := []) hok rfl rfl rfl ((hBl.ext ((hs3.trans hs4).trans hs5)).at (by simp)) (by simp [Value.oneCell']) (by omega) (by omega) fun va w6 hoa ht6 hna => ?_
        have hc6 : Step [] w22 w6 := hc5.then ht6 (fun b hb => .inr (by have := (hgek b hb).1; have := hc0.size; omega))
        have hoa2 := IntsO.snoc (own_base hoa (show w22.heap.size ≤ _ by have := hc0.size; omega))
        have hz6 := ht6.size
        have hBp2 := (hBp.ext (((hs2.trans hs3).trans hs4).trans hs5)).step ht6 (fun hb => by have := hgek bp hb; omega)
        refine ⟨hc6, ?_⟩
        have hone := (IntsO.ints (L := []) hoa2 (by simp; omega) (by simp)).one
        have hcel := (IntsO.ints (L := []) hoa2 (by simp; omega) (by simp)).cells
        refine p (fun _ => r_build ⟨rfl, rfl, hcel, trivial⟩) <| ?_
        refine pk <| o_stores (us := [.int .i64 (nxt A.ed ei.e.x ev0), .int .i64 (nxt B.ed ei.e.y ev0), va]) hBp2 rfl rfl rfl rfl ⟨rfl, rfl, hone, trivial⟩ fun wz hsz hBz => ⟨hc6.then1 hsz (by have := hc0.size; omega), pe ?_⟩
        have hna2 : bp ∉ ob va := fun hb => by rcases hna bp hb with h1 | h1; have := hgek bp h1; omega; have := (own_ge hoa bp hb).2; omega
        exact ⟨(bp, va), ⟨rfl, trivial⟩, hc6.then1 hsz (by have := hc0.size; omega), hBz, own_step hoa2 hsz (fun b hb => by simp; exact fun e => hna2 (e ▸ hb)), by have := hc0.size; omega⟩
  rintro ⟨bp, va⟩ g24 w24 ⟨hs24, hBp, hoa, hgp⟩
  simp only [] at hBp hoa hgp
  have hM24 := hM22.ext hs24
  have hnx : enN A B ei.e ev0 = ⟨nxt A.ed ei.e.x ev0, nxt B.ed ei.e.y ev0, ei.e.u ++ [ev0]⟩ := rfl
  have hS : eqS A B ei.e (fs.map (·.e)) ev0 = if (nxt A.ed ei.e.x ev0, nxt B.ed ei.e.y ev0) ≠ ((-1 : Int), (-1 : Int)) ∧ (nxt A.ed ei.e.x ev0, nxt B.ed ei.e.y ev0) ∉ ((fs.map (·.e)).drop 1).map En.ky then fs.map (·.e) ++ [enN A B ei.e ev0] else fs.map (·.e) := by unfold eqS; rw [hnx]; rfl
  have hJs := eqS_I hOA hOB hJ22 (i := i) (by rw [List.length_map]; exact hi) (e := ei.e) (by rw [List.getElem_map, hei]) ev0
  rw [hS] at hr22 hJs
  refine exE (nxt A.ed ei.e.x ev0) fun nx hnxe => exE (nxt B.ed ei.e.y ev0) fun ny hnye => ?_
  rw [hnxe, hnye] at hBp hr22 hJs hnx
  rw [hnx] at hr22 hJs
  refine W_seq <| W_region (by rfl) ?_
  refine x (r_fieldB rfl) <| x (r_loadB hBp rfl rfl) <| x (r_fieldB rfl) <| x (r_loadB hBp rfl rfl) <| x (r_build ⟨rfl, rfl, trivial⟩) <| xl rfl <| o_alloc (us := [.int .i64 0, .int .i64 0]) rfl fun b23 w25 hs25 hb23 hB23 =>
    xl rfl <| o_stores (us := [.int .i64 nx, .int .i64 ny]) hB23 rfl rfl rfl rfl ⟨rfl, rfl, trivial⟩ fun w26 hs26 hB2326 => xe ?_
  have hs2426 : Step [] w24 w26 := hs25.then1 hs26 hb23
  have hM26 := hM24.ext hs2426
  have hBp26 := hBp.ext hs2426
  have hoa26 := own_ext hoa hs2426
  refine Exists.elim hM26.m fun mm hmm => ?_
  have hmm1 := hmm.1
  have hmm2 := hmm.2 (nx, ny)
  refine W_cut (α := Unit) [(118, 126)] (fun z => [(126, .bool (decide ((nx, ny) ≠ ((-1 : Int), (-1 : Int)) ∧ (nx, ny) ∉ ((fs.map (·.e)).drop 1).map En.ky)))]) (fun z w' => w' = w26) (by rfl) ?_ ?_
  · refine W_region (by rfl) ?_
    refine x (r_loadsB hB2326 rfl rfl) <| x (r_build ⟨rfl, rfl, trivial⟩) <| xb (r_neq_pair (p := (nx, ny)) (q := (-1, -1)) rfl rfl) (fun h120 => ?_) (fun h120 => ?_)
    · refine Or.elim (Decidable.em ((nx, ny) ∈ ((fs.map (·.e)).drop 1).map En.ky)) (fun hin => ?_) (fun hin => ?_)
      · rw [if_pos hin] at hmm2
        refine x r_move <| x r_move <| x (r_loadsB hB2326 rfl rfl) <| x (r_lookup1S (k := (nx, ny)) hmm1 rfl rfl hmm2) <| x (r_not rfl) <| x (r_pick rfl) <| xe ?_
        exact ⟨(), ⟨congrArg Value.bool (decide_eq_false (fun a => a.2 hin)).symm, trivial⟩, rfl⟩
      · rw [if_neg hin] at hmm2
        refine x r_move <| x r_move <| x (r_loadsB hB2326 rfl rfl) <| x (r_lookup1N (k := (nx, ny)) hmm1 rfl rfl hmm2) <| x (r_not rfl) <| x (r_pick rfl) <| xe ?_
        exact ⟨(), ⟨congrArg Value.bool (decide_eq_true ⟨h120, hin⟩).symm, trivial⟩, rfl⟩
    refine x r_move <| xs rfl <| xs rfl <| xs rfl <| xs rfl <| x (r_pick rfl) <| xe ?_
    exact ⟨(), ⟨congrArg Value.bool (decide_eq_false (fun a => h120 a.1)).symm, trivial⟩, rfl⟩
  rintro _ g27 w27 rfl
  refine W_ifn rfl (fun h126 => ?_) (fun h126 => ?_)
  · rw [if_neg h126] at hr22
    refine W_skip ?_
    refine W_region (by rfl) ?_
    refine x (r_add rfl rfl ⟨by omega, by omega⟩) <| x r_move <| xe ?_
    exact ⟨(k + 1, vL2, fs), by simp only []; omega, ⟨rfl, rfl, trivial⟩, hklt, hM26, hJ22, ⟨hi, hei⟩, hr22⟩
  rw [if_pos h126] at hr22 hJs
  have hone := (IntsO.ints (L := []) hoa26 (by simp; omega) (by simp)).one
  have hcel := (IntsO.ints (L := []) hoa26 (by simp; omega) (by simp)).cells
  refine W_seq <| W_region (by rfl) ?_
  refine x r_move <| x (r_loadsB hB2326 rfl rfl) <| xl rfl <| o_update (k := (nx, ny)) hmm1 rfl rfl fun w28 hs28 hm28 => xe ?_
  have hltb := hM26.ltb
  have hgp26 : bp < w24.heap.size := hBp.lt
  have hbp59 : bp ≠ b59 := fun e => by have := hM22.ltb; omega
  have hBp28 := hBp26.step hs28 (by simp; exact hbp59)
  refine W_region (by rfl) ?_
  refine x r_move <| x (r_loadsB hBp28 rfl rfl) <| xl rfl <| o_lits (us := [evCells ⟨va, ⟨nx, ny, ei.e.u ++ [ev0]⟩⟩]) rfl rfl (by decide) (by exact (by decide : 1 * 3 ≤ 1000000)) ⟨rfl, rfl, trivial⟩ fun b131 w29 hs29 hb131 hB131 => ?_
  have hl26 := hM26.l
  have hl29 := own_ext (own_step hl26 hs28 (fun b hb => by simp; exact fun e => hM26.nb (e ▸ hb))) hs29
  have hzB : w17.heap.size ≤ w29.heap.size := by have := hM26.st.size; have := hs28.size; have := hs29.size; omega
  refine xl rfl <| o_app (news := evCells ⟨va, ⟨nx, ny, ei.e.u ++ [ev0]⟩⟩) (L := []) (m := 1) hl29 rfl rfl rfl (hB131.at (by simp)) (by intro u hu; simp only [List.mem_cons, List.not_mem_nil, or_false] at hu; rcases hu with rfl | rfl | rfl; rfl; rfl; exact hone) (by omega) hzB fun v30 w30 ho30 hs30 hn30 =>
    x r_assign <| xe ?_
  have hpI : Ints (b59 :: ob vL2) w27.heap va (ei.e.u ++ [ev0]) := IntsO.ints hoa26 (by simp; omega) (fun b hb => by
    rcases List.mem_cons.1 hb with rfl | hb
    · exact hM22.ltb
    · exact own_lt hM22.l b hb)
  have hM30 := hM26.add (p := ⟨va, ⟨nx, ny, ei.e.u ++ [ev0]⟩⟩) (by omega) hs28 hm28 (hmm.2.add (nx, ny)) hs29 hs30 ho30 hn30 hpI
  have hmap : (fs ++ [(⟨va, ⟨nx, ny, ei.e.u ++ [ev0]⟩⟩ : EV)]).map (fun q : EV => q.e) = fs.map (fun q : EV => q.e) ++ [⟨nx, ny, ei.e.u ++ [ev0]⟩] := by simp
  refine W_region (by rfl) ?_
  refine x (r_add rfl rfl ⟨by omega, by omega⟩) <| x r_move <| xe ?_
  exact ⟨(k + 1, v30, fs ++ [⟨va, ⟨nx, ny, ei.e.u ++ [ev0]⟩⟩]), by simp only []; omega, ⟨rfl, rfl, trivial⟩, hklt, hM30, by simp only []; rw [hmap]; exact hJs.1, ⟨by simp; omega, by simp only []; rw [List.getElem_append_left hi]; exact hei⟩, by simp only []; rw [hmap]; exact hr22⟩
end Go.Proofs.YtfhgnlkdcdlblaaDoor
/- Contracts: overseerlaw26's Make, with the plant's alphabet; the law's differ. -/
namespace Go.Proofs.YtfhgnlkdcdlblaaDoor
open Go.Lg
set_option maxHeartbeats 2000000 in
theorem make26_al {w : World} {ns : List Nat} (hn : ns.length = 57) (hns : ∀ n ∈ ns, n < 256) :
    Ret Tryd.prog 10 [.agg (bys ns).toArray] w fun r w' => Step [] w w' ∧ ∃ vp vs vu aP aS u, r = .tuple #[vp, vs, vu] ∧ AutF w.heap.size w'.heap vp aP ∧ AutF w.heap.size w'.heap vs aS ∧ Pb aP aS ∧
      IntsO 3 w.heap.size w' vu (setK u 5) ∧ aP.al = setK (ns.getD 0 0) 5 := by
  refine Ret.of_W Tryd.func10 rfl Tryd.ntmps10 Tryd.results10 (by simp) ?_
  have g0 := bys_at (ns := ns) (j := 0) (by omega)
  have g1 := bys_at (ns := ns) (j := 28) (by omega)
  have g2 := bys_at (ns := ns) (j := 56) (by omega)
  have l0 := getD_lt hns 0
  have l1 := getD_lt hns 28
  have l2 := getD_lt hns 56
  refine exE (ns.getD 0 0) fun m0 hm0 => ?_
  refine exE (ns.getD 28 0) fun m1 hm1 => ?_
  refine exE (ns.getD 56 0) fun m2 hm2 => ?_
  rw [hm0] at g0 l0
  rw [hm1] at g1 l1
  rw [hm2] at g2 l2
  have q0 := setK_len m0 5
  have q1 := setK_len m1 5
  have q2 := setK_len m2 5
  have d0 : ((ns.drop 1).take 27).length = 27 := by simp; omega
  have d1 : ((ns.drop 29).take 27).length = 27 := by simp; omega
  refine W_seq <| W_region (by rfl) ?_
  refine xl rfl <| o_box (us := bys ns) rfl fun b1 w1 hs1 hb1 hB1 => xl rfl <| o_alloc (us := [.slice none 0 0, .int .i64 0, .slice none 0 0, .slice none 0 0]) rfl fun b2 w2 hs2 hb2 hB2 =>
    xl rfl <| o_alloc (us := [.slice none 0 0, .int .i64 0, .slice none 0 0, .slice none 0 0]) rfl fun b3 w3 hs3 hb3 hB3 => x r_assign <| xe ?_
  have hs13 := (hs1.trans hs2).trans hs3
  have hB13 := (hB1.ext hs2).ext hs3
  have hB23 := hB2.ext hs3
  have hz1 := hs1.size
  have hz2 := hs2.size
  have hz3 := hs3.size
  have hl1 := hB1.lt
  have hl2 := hB2.lt
  have hl3 := hB3.lt
  refine W_seq <| W_draw (Step [] w3) [(0, true), (1, true), (2, true), (4, true), (5, true), (6, true), (3, false), (7, false), (8, false)] Tryd.mixed (by rfl) (by kernel_rfl) (Step.drew _ _) ?_
  refine p (fun _ => r_fieldB rfl) <| p (fun _ => r_fieldB rfl) <| pq (fun _ hc => r_loadB (hB13.ext hc) rfl g0) <| p (fun _ => r_fieldB rfl) <|
    p (fun _ => r_fieldB rfl) <| pq (fun _ hc => r_loadsBO (us := bys ((ns.drop 1).take 27)) (hB13.ext hc) rfl (by simp [bys]; omega) bys_sub) <| pk <| xf <| (events3_ok m0 l0 _).mono ?_
  rintro v4 w4 ⟨hs4, ho4⟩
  have hs34 := (Step.drew [] w3).trans hs4
  have hz4 := hs34.size
  refine ⟨hs34, pk <| xf <| (make3_ok (IntsO.ints (L := []) ho4 (by omega) (by simp)) (fun e he => by have := setK_bd m0 5 e he; omega) (setK_inc m0 5) d0 (bys_all hns 1 27)).mono ?_⟩
  rintro vp w5 ⟨hs5, aP, hF5, hkP, hP5, haP⟩
  have hs35 := hs34.trans hs5
  have hz5 := hs5.size
  obtain ⟨pva, pvm, pve, rfl, hPA⟩ := hF5
  have hP0 := hPA [] (by simp)
  refine ⟨hs35, pkl (hl := by kernel_rfl) <| o_stores (us := [pva, .int .i64 aP.st, pvm, pve]) (hB23.ext hs35) rfl rfl rfl rfl ⟨hP0.al.one, rfl, hP0.mr.one, hP0.ed.one, trivial⟩ fun w6 hs6 hB26 => pe ?_⟩
  have hz6 := hs6.size
  have hF6 : AutF w4.heap.size w6.heap (.agg #[pva, .int .i64 aP.st, pvm, pve]) aP := AutF_st1 ⟨pva, pvm, pve, rfl, hPA⟩ (by omega) hs6
  have hB16 := (hB13.ext hs35).step hs6 (by simp; omega)
  have hB36 := (hB3.ext hs35).step hs6 (by simp; omega)
  have hW6 : Step [] w w6 := (hs13.trans hs35).then1 hs6 (by omega)
  have hPA6 : ∀ L : List Nat, (∀ b ∈ L, b < w4.heap.size) → AutA L w6.heap pva pvm pve aP := fun L hL => by
    obtain ⟨x1, x2, x3, e, h⟩ := hF6
    have e' := e
    simp only [Value.agg.injEq, Array.mk.injEq, List.cons.injEq, and_true, true_and] at e'
    obtain ⟨rfl, rfl, rfl⟩ := e'
    exact h L hL
  have hPA60 := hPA6 [] (by simp)
  refine W_seq <| W_draw (Step [] w6) [(0, true), (1, true), (2, true), (4, true), (5, true), (7, true), (8, true), (9, true), (3, false), (6, false), (10, false), (11, false)] Tryd.mixed (by rfl) (by kernel_rfl) (Step.drew _ _) ?_
  refine p (fun _ => r_fieldB rfl) <| p (fun _ => r_fieldB rfl) <| pq (fun _ hc => r_loadB (hB16.ext hc) rfl g1) <| p (fun _ => r_fieldB rfl) <|
    pq (fun _ hc => r_loadB (hB26.ext hc) rfl rfl) <| p (fun _ => r_fieldB rfl) <| p (fun _ => r_fieldB rfl) <| pq (fun _ hc => r_loadsBO (us := bys ((ns.drop 29).take 27)) (hB16.ext hc) rfl (by simp [bys]; omega) bys_sub) <|
    pk <| xf <| (events3_ok m1 l1 _).mono ?_
  rintro v7 w7 ⟨hs7, ho7⟩
  have hs67 := (Step.drew [] w6).trans hs7
  have halP := hkP.al_le
  refine ⟨hs67, pk <| xf <| (Intersect_ok (IntsO.ints (L := []) ho7 (by omega) (by simp)) (hPA60.al.ext hs67) (by omega)).mono ?_⟩
  rintro v8 w8 ⟨hs8, ho8⟩
  have hs68 := hs67.trans hs8
  have qm := mrg_len (· && ·) (setK m1 5) aP.al
  have hmi := mrg_inc (· && ·) _ (setK m1 5) aP.al (Nat.le_refl _) (setK_inc m1 5) hkP.ali
  have hmm := fun x => mem_mrg (keep := (· && ·)) (setK_inc m1 5) hkP.ali x
  refine ⟨hs68, pk <| xf <| (make3_ok (IntsO.ints (L := []) ho8 (by omega) (by simp)) (fun e he => by
    have h1 := (hmm e).1 he
    have h2 : e ∈ aP.al := by have := h1.2; simp at this; exact this.2
    exact hkP.al e h2) hmi d1 (bys_all hns 29 27)).mono ?_⟩
  rintro vs w9 ⟨hs9, aS, hF9, hkS, hS5, haS⟩
  have hs69 := hs68.trans hs9
  have hz68 := hs68.size
  have hz9 := hs9.size
  obtain ⟨sva, svm, sve, rfl, hSA⟩ := hF9
  have hS0 := hSA [] (by simp)
  refine ⟨hs69, pkl (hl := by kernel_rfl) <| o_stores (us := [sva, .int .i64 aS.st, svm, sve]) (hB36.ext hs69) rfl rfl rfl rfl ⟨hS0.al.one, rfl, hS0.mr.one, hS0.ed.one, trivial⟩ fun w10 hs10 hB310 => pe ?_⟩
  have hz10 := hs10.size
  have hF10 : AutF w8.heap.size w10.heap (.agg #[sva, .int .i64 aS.st, svm, sve]) aS := AutF_st1 ⟨sva, svm, sve, rfl, hSA⟩ (by omega) hs10
  have hFP10 : AutF w4.heap.size w10.heap (.agg #[pva, .int .i64 aP.st, pvm, pve]) aP := AutF_st1 (hF6.ext hs69) (by omega) hs10
  have hB110 := (hB16.ext hs69).step hs10 (by simp; omega)
  have hB210 := (hB26.ext hs69).step hs10 (by simp; omega)
  have hW10 : Step [] w w10 := (hW6.trans hs69).then1 hs10 (by omega)
  refine W_seq <| W_draw (fun w' => Step [b2, b3] w10 w' ∧ Blk w'.heap b2 35 [pva, .int .i64 aP.st, pvm, pve] ∧ Blk w'.heap b3 35 [sva, .int .i64 aS.st, svm, sve]) [(0, true), (1, true), (2, true), (3, true), (4, false), (5, false), (6, false), (7, true)] Tryd.mixed (by rfl) (by kernel_rfl)
    ⟨Step.drew _ _, hB210.ext (Step.drew _ _), hB310.ext (Step.drew _ _)⟩ ?_
  refine pq (fun _ hc => r_loadsB hc.2.1 rfl rfl) <| pq (fun _ hc => r_loadsB hc.2.2 rfl rfl) <| p (fun _ => r_fieldB rfl) <|
    pq (fun _ hc => r_loadB (hB110.step hc.1 (by simp; omega)) rfl g2) <| pk <| xf <| (events3_ok m2 l2 _).mono ?_
  rintro vu w11 ⟨hs11, ho11⟩
  have hs1011 := (Step.drew [] w10).trans hs11
  have hB211 := hB210.ext hs1011
  have hB311 := hB310.ext hs1011
  have hz11 := hs1011.size
  refine ⟨⟨hs1011.any, hB211, hB311⟩, pk <| o_stores (us := [pva, .int .i64 aP.st, pvm, pve]) hB211 rfl rfl rfl rfl ⟨hP0.al.one, rfl, hP0.mr.one, hP0.ed.one, trivial⟩ fun w12 hs12 hB212 => ?_⟩
  have hB312 := hB311.step hs12 (by simp; omega)
  refine ⟨⟨(hs1011.any (L := [b2, b3])).trans' (hs12.mono (by simp)), hB212, hB312⟩, pk <| o_stores (us := [sva, .int .i64 aS.st, svm, sve]) hB312 rfl rfl rfl rfl ⟨hS0.al.one, rfl, hS0.mr.one, hS0.ed.one, trivial⟩ fun w13 hs13' hB313 => ?_⟩
  have hB213 := hB212.step hs13' (by simp; omega)
  refine ⟨⟨((hs1011.any (L := [b2, b3])).trans' (hs12.mono (by simp))).trans' (hs13'.mono (by simp)), hB213, hB313⟩, p (fun _ => r_assign) <| pe ?_⟩
  have hWF : Step [] w w13 := ((hW10.trans hs1011).then1 hs12 (by omega)).then1 hs13' (by omega)
  have ho13 : IntsO 3 w10.heap.size w13 vu (setK m2 5) := own_step (own_step ho11 hs12 (fun b hb => by have h' : w10.heap.size ≤ b := (own_ge ho11 b hb).1; simp; omega)) hs13' (fun b hb => by have h' : w10.heap.size ≤ b := (own_ge ho11 b hb).1; simp; omega)
  have hFP13 := AutF_st1 (AutF_st1 (hFP10.ext hs1011) (by omega) hs12) (by omega : b3 < w4.heap.size) hs13'
  have hFS13 := AutF_st1 (AutF_st1 (hF10.ext hs1011) (by omega) hs12) (by omega : b3 < w8.heap.size) hs13'
  refine W_ret ⟨[.agg #[pva, .int .i64 aP.st, pvm, pve], .agg #[sva, .int .i64 aS.st, svm, sve], vu], ⟨⟨_, rfl, run_loadVar_ag rfl (hB213.at (L := []) (by simp)).cells⟩, ⟨_, rfl, run_loadVar_ag rfl (hB313.at (L := []) (by simp)).cells⟩, rfl, trivial⟩, hWF,
    _, _, vu, aP, aS, m2, rfl, hFP13.mono (by omega), hFS13.mono (by omega), ⟨hkP, hkS, hP5, hS5, fun x hx => ?_⟩, own_base ho13 (by omega), by rw [haP, hm0]⟩
  rw [haS] at hx
  have h1 := (hmm x).1 hx
  have := h1.2
  simp at this
  exact this.2
set_option maxHeartbeats 4000000 in
theorem differ30_ok {w : World} {ava avm ave bva bvm bve vw : Value} {A B : Aut} {u : List Int} (hA : AutA [] w.heap ava avm ave A) (hB : AutA [] w.heap bva bvm bve B) (hcA : ckA A = 0) (hcB : ckA B = 0) (hw : Ints [] w.heap vw u) :
    Ret Tryd.prog 30 [.agg #[ava, .int .i64 A.st, avm, ave], .agg #[bva, .int .i64 B.st, bvm, bve], vw] w fun r w' => r = .bool (dif A B u) ∧ Step [] w w' := by
  refine Ret.of_W Tryd.func30 rfl Tryd.ntmps30 Tryd.results30 (by simp) ?_
  refine W_seq <| W_region (by rfl) ?_
  refine xl rfl <| o_box (us := [ava, .int .i64 A.st, avm, ave]) rfl fun b3 w1 hs1 hb3 hB3 => xl rfl <| o_box (us := [bva, .int .i64 B.st, bvm, bve]) rfl fun b4 w2 hs2 hb4 hB4 => x r_assign <| xe ?_
  have hs12 := hs1.trans hs2
  have hB32 := hB3.ext hs2
  refine exE (gens A u) fun gA hgA => exE (gens B u) fun gB hgB => exE (accs A u) fun cA hcA' => exE (accs B u) fun cB hcB' => ?_
  have hD : dif A B u = (!(gA == gB) || !(cA == cB)) := by unfold dif; rw [hgA, hgB, hcA', hcB']
  refine W_seq <| W_region (by rfl) ?_
  refine x (r_loadsB hB32 rfl rfl) <| x r_move <| xl rfl <| xf <| (Generates_ok (hA.ext hs12) (hw.ext hs12)).mono ?_
  rintro r3 w3 ⟨hr3, hs3⟩
  rw [hcA, hgA] at hr3
  subst hr3
  refine x r_move <| x (r_extract rfl rfl) <| x (r_extract rfl rfl) <| x r_assign <| x r_assign <| xe ?_
  have hs13 := hs12.trans hs3
  refine W_seq <| W_region (by rfl) ?_
  refine x (r_loadsB (hB4.ext hs3) rfl rfl) <| x r_move <| xl rfl <| xf <| (Generates_ok (hB.ext hs13) (hw.ext hs13)).mono ?_
  rintro r4 w4 ⟨hr4, hs4⟩
  rw [hcB, hgB] at hr4
  subst hr4
  refine x r_move <| x (r_extract rfl rfl) <| x (r_extract rfl rfl) <| x r_assign <| x r_assign <| xe ?_
  have hs14 := hs13.trans hs4
  have hs24 := hs3.trans hs4
  refine W_seq <| W_region (by rfl) ?_
  refine x (r_loadsB (hB32.ext hs24) rfl rfl) <| x r_move <| xl rfl <| xf <| (Accepts_ok (hA.ext hs14) (hw.ext hs14)).mono ?_
  rintro r5 w5 ⟨hr5, hs5⟩
  rw [hcA, hcA'] at hr5
  subst hr5
  refine x r_move <| x (r_extract rfl rfl) <| x (r_extract rfl rfl) <| x r_assign <| x r_assign <| xe ?_
  have hs15 := hs14.trans hs5
  have hs25 := hs24.trans hs5
  refine W_seq <| W_region (by rfl) ?_
  refine x (r_loadsB (hB4.ext hs25) rfl rfl) <| x r_move <| xl rfl <| xf <| (Accepts_ok (hB.ext hs15) (hw.ext hs15)).mono ?_
  rintro r6 w6 ⟨hr6, hs6⟩
  rw [hcB, hcB'] at hr6
  subst hr6
  refine x r_move <| x (r_extract rfl rfl) <| x (r_extract rfl rfl) <| x r_assign <| x r_assign <| xe ?_
  have hs16 := hs15.trans hs6
  refine Or.elim (boolX (!(gA == gB))) (fun h56 => ?_) (fun h56 => ?_)
  · refine W_seq <| W_region (by rfl) ?_
    refine x r_move <| x (r_eql rfl rfl) <| x r_move <| x r_move <| x (r_eql rfl rfl) <| x (r_pick rfl) <| x r_move <| x r_move <| x (r_eql rfl rfl) <| x (r_pick rfl) <| x r_move <| x r_move <| x (r_eql rfl rfl) <| x (r_pick rfl) <| x r_move <| x r_move <| x r_move <| x (r_neq_boolV rfl rfl h56) <| x r_move <| xs rfl <| xs rfl <| xs rfl <| x (r_pick rfl) <| x (r_pick rfl) <| x r_assign <| xe ?_
    exact W_ret ⟨[.bool true], ⟨rfl, trivial⟩, congrArg Value.bool (by rw [hD, h56]; rfl), hs16⟩
  · refine W_seq <| W_region (by rfl) ?_
    refine x r_move <| x (r_eql rfl rfl) <| x r_move <| x r_move <| x (r_eql rfl rfl) <| x (r_pick rfl) <| x r_move <| x r_move <| x (r_eql rfl rfl) <| x (r_pick rfl) <| x r_move <| x r_move <| x (r_eql rfl rfl) <| x (r_pick rfl) <| x r_move <| x r_move <| x r_move <| x (r_neq_boolV rfl rfl h56) <| x r_move <| x r_move <| x r_move <| x (r_neq_bool rfl rfl) <| x (r_pick rfl) <| x (r_pick rfl) <| x r_assign <| xe ?_
    exact W_ret ⟨[.bool (!(cA == cB))], ⟨rfl, trivial⟩, congrArg Value.bool (by rw [hD, h56]; rfl), hs16⟩
end Go.Proofs.YtfhgnlkdcdlblaaDoor
/- Plain: the least word that distinguishes two closed loops is a word of the plant. -/
namespace Go.Proofs.YtfhgnlkdcdlblaaDoor
open Go.Lg

theorem go_rn {p s : Aut} (hp : Okay p) (he : evs [p, s] = p.al) : ∀ (u : List Int) (x y : Int) (t : List Int), 0 ≤ x → goT [p, s] [x, y] u = some t → 0 ≤ rn p x u
  | [], x, y, t, hx, _ => hx
  | v :: u, x, y, t, hx, h => by
    rw [goT, he] at h
    by_cases hv : v ∈ p.al
    · rw [if_neg (fun hn => hn hv)] at h
      cases hst : stepT v [p, s] [x, y] with
      | none => rw [hst] at h; cases h
      | some t' =>
        rw [hst] at h
        have h' : goT [p, s] t' u = some t := h
        rw [stepT, if_neg (fun hn => hn hv)] at hst
        cases hg : eget p.ed x v with
        | none => rw [hg] at hst; cases hst
        | some x' =>
          rw [hg] at hst
          have hst' : (stepT v [s] [y]).map (x' :: ·) = some t' := hst
          have hx' : 0 ≤ x' := (hp.ed _ (eget_mem hg)).2.2.2.1
          have hn : nxt p.ed x v = x' := by rw [nxt_eget, hg]
          obtain ⟨ty, hty, rfl⟩ := Option.map_eq_some_iff.1 hst'
          have hty' : ∃ y', ty = [y'] := by
            rw [stepT] at hty
            split at hty
            · have : some [y] = some ty := hty
              exact ⟨y, (Option.some.inj this).symm⟩
            · cases hg2 : eget s.ed y v with
              | none => rw [hg2] at hty; cases hty
              | some y' =>
                rw [hg2] at hty
                have : some [y'] = some ty := hty
                exact ⟨y', (Option.some.inj this).symm⟩
          obtain ⟨y', rfl⟩ := hty'
          rw [rn_cons, hn]
          exact go_rn hp he u x' y' t hx' h'
    · rw [if_pos hv] at h; cases h
theorem loop_plant {p s : Aut} (h : Pb p s) {u : List Int} (hg : gens (opA p s) u = true) : 0 ≤ rn p 0 u ∧ 0 < p.st := by
  obtain ⟨hS, hO, hz⟩ := opE_syP h.opE0
  obtain ⟨j, hj, _, hgo⟩ := gens_at hO hS hg
  have h0 : 0 < (opQ p s).length := by omega
  have hhd : (opQ p s).getD 0 [] = [0, 0] := hS.hd h0
  rw [hhd] at hgo
  refine ⟨go_rn h.p (evs_two h.p h.s h.sub) u 0 0 _ (Int.le_refl _) hgo, ?_⟩
  have hp0 := h.p.st0
  have : ¬ p.st = 0 := fun e => by have := hz.2 (.inl e); omega
  omega
theorem acc_gen {a : Aut} (ha : Okay a) {u : List Int} (h : gens a u = false) : accs a u = false := by
  rw [gens_rn ha, decide_eq_false_iff_not] at h
  rw [accs_rn ha, decide_eq_false_iff_not]
  intro hm
  exact h (ha.mr _ hm).1
theorem dif_gens {a b : Aut} (ha : Okay a) (hb : Okay b) {u : List Int} (h : dif a b u = true) : gens a u = true ∨ gens b u = true := by
  rcases boolX (gens a u) with h1 | h1
  · exact .inl h1
  · rcases boolX (gens b u) with h2 | h2
    · exact .inr h2
    · exfalso
      have e1 : accs a u = false := acc_gen ha h1
      have e2 : accs b u = false := acc_gen hb h2
      unfold dif at h
      rw [h1, h2, e1, e2] at h
      cases h
theorem dif_plant {p s t : Aut} (hs : Pb p s) (ht : Pb p t) {u : List Int} (h : dif (opA p s) (opA p t) u = true) : 0 ≤ rn p 0 u ∧ 0 < p.st := by
  rcases dif_gens (opE_syP hs.opE0).2.1 (opE_syP ht.opE0).2.1 h with h1 | h1
  · exact loop_plant hs h1
  · exact loop_plant ht h1
theorem cmp_some {p s t : Aut} (hs : Pb p s) (ht : Pb p t) {w : List Int} (h : eqv (opA p s) (opA p t) p.al = some w) : dif (opA p s) (opA p t) w = true := by
  have := eqv_spec (opE_syP hs.opE0).2.1 (opE_syP ht.opE0).2.1 hs.p.al hs.p.ali
  rw [h] at this
  exact this.1
/-- The words that the law looks at. -/
theorem cmp_wds {p : Aut} (hp : Okay p) {l : List (List Int)} (h : wdsW p 5 = some l) (h0 : 0 < p.st) : ∃ R, WdR p 5 R ∧ l = R.map (·.u) := by
  unfold wdsW at h
  rw [if_neg (by omega)] at h
  obtain ⟨R, hR, rfl⟩ := Option.map_eq_some_iff.1 h
  exact ⟨R, wds_spec hp h0 hR, rfl⟩
theorem cmp_at {p s t : Aut} (hs : Pb p s) (ht : Pb p t) {l : List (List Int)} (hl : wdsW p 5 = some l) {i : Nat} (hi : i < l.length) (hd : dif (opA p s) (opA p t) (l[i]'hi) = true)
    (hb : ∀ j (hj : j < l.length), j < i → dif (opA p s) (opA p t) (l[j]'hj) = false) : eqv (opA p s) (opA p t) p.al = some (l[i]'hi) := by
  have hsp := eqv_spec (opE_syP hs.opE0).2.1 (opE_syP ht.opE0).2.1 hs.p.al hs.p.ali
  obtain ⟨R, hR, rfl⟩ := cmp_wds hs.p hl (dif_plant hs ht hd).2
  have hi' : i < R.length := by simpa using hi
  rw [List.getElem_map] at hd ⊢
  have hrx := hR.rx _ (List.getElem_mem hi')
  have hsm : ∀ e ∈ R, Sml e.u := fun e he v hv => hs.p.al v ((hR.rx e he).2.2.2.1 v hv)
  cases ho : eqv (opA p s) (opA p t) p.al with
  | none =>
    rw [ho] at hsp
    have := hsp _ hrx.2.2.2.1
    rw [hd] at this; cases this
  | some w =>
    rw [ho] at hsp
    obtain ⟨h1, h2, h3⟩ := hsp
    have h4 := h3 _ hrx.2.2.2.1 hd
    have hwS : Sml w := fun v hv => hs.p.al v (h2 v hv)
    have hlen := enc_len hwS (hsm _ (List.getElem_mem hi')) h4
    obtain ⟨e, he, hew⟩ := hR.all w (dif_plant hs ht h1).1 (by have := hrx.2.2.2.2; omega)
    obtain ⟨k, hk, hke⟩ := List.getElem_of_mem he
    rcases Nat.lt_trichotomy k i with hki | hki | hki
    · have := hb k (by simpa using hk) hki
      rw [List.getElem_map, hke, hew, h1] at this; cases this
    · subst hki
      rw [hke, hew]
    · have := List.pairwise_iff_getElem.1 hR.so i k hi' hk hki
      rw [hke, hew] at this
      omega
theorem cmp_end {p s t : Aut} (hs : Pb p s) (ht : Pb p t) {l : List (List Int)} (hl : wdsW p 5 = some l) (hb : ∀ j (hj : j < l.length), dif (opA p s) (opA p t) (l[j]'hj) = false) {w : List Int} (h : eqv (opA p s) (opA p t) p.al = some w) : 5 < w.length := by
  have h1 := cmp_some hs ht h
  obtain ⟨R, hR, rfl⟩ := cmp_wds hs.p hl (dif_plant hs ht h1).2
  rcases Nat.lt_or_ge 5 w.length with h2 | h2
  · exact h2
  · exfalso
    obtain ⟨e, he, hew⟩ := hR.all w (dif_plant hs ht h1).1 h2
    obtain ⟨k, hk, hke⟩ := List.getElem_of_mem he
    have := hb k (by simpa using hk)
    rw [List.getElem_map, hke, hew, h1] at this; cases this
end Go.Proofs.YtfhgnlkdcdlblaaDoor
/- The function SupervisorCompares returns true. -/
namespace Go.Lg
section
variable {P : Program} {f : Fr} {w : World} {d : Option Nat} {ty : Nat} {ps : String} {af : Array Edge} {gd : Option (Nat × Bool)}
theorem r_moveE {x : Operand} {v : Value} (h : ev f x = v) : (execOp (ev f) ⟨d, .move x, ty, ps, af, gd⟩).run P w = .ok (.value v) w := by
  rw [← h]; exact r_move
theorem r_gtrT {t t' : Nat} {x y : Operand} {k : IntKind} {a b : Int} (hx : ev f x = .int k a) (hy : ev f y = .int k b) (h : b < a) :
    (execOp (ev f) ⟨d, .binOp .gtr t x y t', ty, ps, af, gd⟩).run P w = .ok (.value (.bool true)) w := by
  rw [r_gtr hx hy, decide_eq_true (by omega)]
end
end Go.Lg
namespace Go.Proofs.YtfhgnlkdcdlblaaDoor
open Go.Lg

theorem eqv_res {o : Option (List Int)} {r : Value} {H : Array Obj} (h : match o with | some u => ∃ v, r = .tuple #[v, .bool false, .int .i64 0] ∧ Ints [] H v u | none => r = .tuple #[nilS, .bool true, .int .i64 0]) :
    ∃ v b u, r = .tuple #[v, .bool b, .int .i64 0] ∧ Ints [] H v u ∧ (b = true → o = none ∧ u = []) ∧ (b = false → o = some u) := by
  cases o with
  | none => exact ⟨nilS, true, [], h, Arr.nil _ _ _, fun _ => ⟨rfl, rfl⟩, fun h => by cases h⟩
  | some u => obtain ⟨v, h1, h2⟩ := h; exact ⟨v, false, u, h1, h2, (fun h => by cases h), fun _ => rfl⟩

set_option maxHeartbeats 16000000 in
theorem lawCompares_ok {ns ms : List Nat} (hn : ns.length = 57) (hns : ∀ n ∈ ns, n < 256) (hm : ms.length = 57) (hms : ∀ n ∈ ms, n < 256) (w : World) :
    Ret Tryd.prog 8 [.agg (bys ns).toArray, .agg (bys ms).toArray] w fun r w' => r = .bool true ∧ Step [] w w' := by
  refine Ret.of_W Tryd.func8 rfl Tryd.ntmps8 Tryd.results8 (by simp) ?_
  refine W_seq <| W_region (by rfl) ?_
  refine xl rfl <| o_box (us := bys ns) rfl fun b2 w1 hs1 hb2 hB2 => xl rfl <| o_box (us := bys ms) rfl fun b3 w2 hs2 hb3 hB3 => x r_assign <| xe ?_
  refine W_seq <| W_seq <| W_region (by rfl) ?_
  refine xl rfl <| xf <| (known_ok w2).mono ?_
  rintro r3 w3 ⟨rfl, hs3⟩
  refine x (r_not rfl) <| xe ?_
  refine W_false rfl ?_
  refine W_skip ?_
  have hB23 := (hB2.ext hs2).ext hs3
  have hB33 := hB3.ext hs3
  have d0 : ((ns.drop 0).take 28).length = 28 := by simp; omega
  have hl2 := hB2.lt
  have hl3 := hB3.lt
  have hW3 := (hs1.trans hs2).trans hs3
  refine W_seq <| W_region (by rfl) ?_
  refine x (r_fieldB rfl) <| x (r_loadsBO (us := bys ((ns.drop 0).take 28)) hB23 rfl (by simp [bys]; omega) bys_sub) <| x (r_fieldB rfl) <| xl rfl <| o_storesP (us := bys ((ns.drop 0).take 28)) hB33 rfl rfl (by simp [bys]; omega) (by simp [bys]; omega) (fun y hy => Exists.elim (List.mem_map.1 hy) fun n hn => by rw [← hn.2]; rfl) fun w4 hs4 hB34' => xe ?_
  have hW4 : Step [] w w4 := hW3.then1 hs4 (by have := hs1.size; omega)
  have hB24 := hB23.step hs4 (by simp; omega)
  refine exE (((ns.drop 0).take 28) ++ ms.drop 28) fun qs hqs => ?_
  have hB34 : Blk w4.heap b3 30 (bys qs) := by
    have e : bys ((ns.drop 0).take 28) ++ (bys ms).drop 28 = bys qs := by rw [← hqs]; simp [bys, List.map_drop]
    rw [← e]; exact hB34'
  have hq : qs.length = 57 := by rw [← hqs]; simp; omega
  have hqb : ∀ n ∈ qs, n < 256 := fun n h => by
    rw [← hqs] at h
    rcases List.mem_append.1 h with h | h
    · exact hns n (List.mem_of_mem_drop (List.mem_of_mem_take h))
    · exact hms n (List.mem_of_mem_drop h)
  have hq0 : qs.getD 0 0 = ns.getD 0 0 := by
    have : qs[0]? = ns[0]? := by rw [← hqs, List.getElem?_append_left (by rw [d0]; omega), List.getElem?_take_of_lt (by omega), List.drop_zero]
    rw [List.getD_eq_getElem?_getD, List.getD_eq_getElem?_getD, this]
  refine W_seq <| W_region (by rfl) ?_
  refine x (r_loadsB hB24 rfl (by simp [bys]; exact hn)) <| xl rfl <| xf <| (make26_al hn hns).mono ?_
  rintro r5 w5 ⟨hs5, vp, vs, vu, aP, aS, u, rfl, hFP, hFS, hPb, huo, hal⟩
  obtain ⟨pva, pvm, pve, rfl, hPA⟩ := hFP
  obtain ⟨sva, svm, sve, rfl, hSA⟩ := hFS
  have hP0 := hPA [] (by simp)
  have hS0 := hSA [] (by simp)
  refine x r_move <| x (r_extract rfl rfl) <| x (r_extract rfl rfl) <|
    x (r_extract rfl rfl) <| xl rfl <| o_alloc (us := [.slice none 0 0, .int .i64 0, .slice none 0 0, .slice none 0 0]) rfl fun b5 w6 hs6 hb5 hB5 => xl rfl <| o_alloc (us := [.slice none 0 0, .int .i64 0, .slice none 0 0, .slice none 0 0]) rfl fun b6 w7 hs7 hb6 hB6 =>
    xl rfl <| o_stores (us := [pva, .int .i64 aP.st, pvm, pve]) (hB5.ext hs7) rfl rfl rfl rfl ⟨hP0.al.one, rfl, hP0.mr.one, hP0.ed.one, trivial⟩ fun w8 hs8 hB58 => ?_
  have hl5 := hB5.lt
  have hz6 := hs6.size
  have hB68 := hB6.step hs8 (by simp; omega)
  refine xl rfl <| o_stores (us := [sva, .int .i64 aS.st, svm, sve]) hB68 rfl rfl rfl rfl ⟨hS0.al.one, rfl, hS0.mr.one, hS0.ed.one, trivial⟩ fun w9 hs9 hB69 => x r_assign <| xe ?_
  have hB59 := hB58.step hs9 (by simp; omega)
  have hs59 : Step [] w5 w9 := ((hs6.trans hs7).then1 hs8 hb5).then1 hs9 (by omega)
  have hs49 := hs5.trans hs59
  have hP9 := hP0.ext hs59
  have hS9 := hS0.ext hs59
  refine W_seq <| W_region (by rfl) ?_
  refine x (r_loadsB (hB34.ext hs49) rfl (by simp [bys]; exact hq)) <| xl rfl <| xf <| (make26_al hq hqb).mono ?_
  rintro r10 w10 ⟨hs10, vp', vt, vu', aP', aT, u', rfl, hFP', hFT, hPb', huo', hal'⟩
  have hPt : Pb aP aT := ⟨hPb.p, hPb'.s, hPb.p5, hPb'.s5, fun v hv => by rw [hal, ← hq0, ← hal']; exact hPb'.sub v hv⟩
  obtain ⟨qva, qvm, qve, rfl, hQA⟩ := hFP'
  obtain ⟨tva, tvm, tve, rfl, hTA⟩ := hFT
  have hQ0 := hQA [] (by simp)
  have hT0 := hTA [] (by simp)
  refine x r_move <| x (r_extract rfl rfl) <| x (r_extract rfl rfl) <|
    x (r_extract rfl rfl) <| xl rfl <| o_alloc (us := [.slice none 0 0, .int .i64 0, .slice none 0 0, .slice none 0 0]) rfl fun b8 w11 hs11 hb8 hB8 => xl rfl <| o_alloc (us := [.slice none 0 0, .int .i64 0, .slice none 0 0, .slice none 0 0]) rfl fun b9 w12 hs12 hb9 hB9 =>
    xl rfl <| o_stores (us := [qva, .int .i64 aP'.st, qvm, qve]) (hB8.ext hs12) rfl rfl rfl rfl ⟨hQ0.al.one, rfl, hQ0.mr.one, hQ0.ed.one, trivial⟩ fun w13 hs13 hB813 => ?_
  have hl8 := hB8.lt
  have hz11 := hs11.size
  have hB913 := hB9.step hs13 (by simp; omega)
  refine xl rfl <| o_stores (us := [tva, .int .i64 aT.st, tvm, tve]) hB913 rfl rfl rfl rfl ⟨hT0.al.one, rfl, hT0.mr.one, hT0.ed.one, trivial⟩ fun w14 hs14 hB914 => x r_assign <| xe ?_
  have hs1014 : Step [] w10 w14 := ((hs11.trans hs12).then1 hs13 hb8).then1 hs14 (by omega)
  have hs914 := hs10.trans hs1014
  have hP14 := hP9.ext hs914
  have hS14 := hS9.ext hs914
  have hT14 := hT0.ext hs1014
  have hB514 := hB59.ext hs914
  have hB614 := hB69.ext hs914
  have hW14 := (hW4.trans hs49).trans hs914
  have hE1 := hPb.opE0
  have hE2 := hPt.opE0
  have hSome := fun u => cmp_some hPb hPt (w := u)
  have hAt := fun l hl i hi => cmp_at hPb hPt (l := l) hl (i := i) hi
  have hEnd := fun l hl hb u => cmp_end hPb hPt (l := l) hl hb (w := u)
  have hcA := (ckA_zero _).2 (opE_syP hE1).2.1
  have hcB := (ckA_zero _).2 (opE_syP hE2).2.1
  have hcP := (ckA_zero _).2 hPb.p
  have hEq := Equivalent_ok hP14 hS14 hT14 hPb.st100 hPt.st100 hE1 hE2
  refine W_seq <| W_region (by rfl) ?_
  refine x (r_loadsB hB514 rfl rfl) <| x (r_loadsB hB614 rfl rfl) <| x (r_loadsB hB914 rfl rfl) <| xl rfl <| xf <| hEq.mono ?_
  rintro r15 w15 ⟨hs15, hr15⟩
  obtain ⟨vw, is, uw, rfl, hI15, hT, hF⟩ := eqv_res hr15
  refine x r_move <| x (r_extract rfl rfl) <| x (r_extract rfl rfl) <| x (r_extract rfl rfl) <| x r_assign <| x r_assign <| x r_assign <| xe ?_
  refine W_seq <| W_region (by rfl) ?_
  refine x (r_loadsB (hB514.ext hs15) rfl rfl) <| x (r_loadsB (hB614.ext hs15) rfl rfl) <| xl rfl <| xf <| (Loop_ok (hP14.ext hs15) (hS14.ext hs15) hPb.st100).mono ?_
  rintro r16 w16 ⟨hs16, vl, hr16, _, hgl⟩
  rw [hE1] at hr16
  subst hr16
  obtain ⟨lva, lvm, lve, rfl, hLA⟩ := hgl hE1
  have hL16 := hLA [] (by simp)
  refine x r_move <| x (r_extract rfl rfl) <|
    x (r_extract rfl rfl) <| xl rfl <| o_alloc (us := [.slice none 0 0, .int .i64 0, .slice none 0 0, .slice none 0 0]) rfl fun b14 w17 hs17 hb14 hB14 => xl rfl <| o_stores (us := [lva, .int .i64 (opA aP aS).st, lvm, lve]) hB14 rfl rfl rfl rfl ⟨hL16.al.one, rfl, hL16.mr.one, hL16.ed.one, trivial⟩ fun w18 hs18 hB1418 =>
    x r_assign <| xe ?_
  have hs1618 : Step [] w16 w18 := hs17.then1 hs18 hb14
  have hs1418 := (hs15.trans hs16).trans hs1618
  have hL18 := hL16.ext hs1618
  refine W_seq <| W_region (by rfl) ?_
  refine x (r_loadsB (hB514.ext hs1418) rfl rfl) <| x (r_loadsB (hB914.ext hs1418) rfl rfl) <| xl rfl <| xf <| (Loop_ok (hP14.ext hs1418) (hT14.ext hs1418) hPt.st100).mono ?_
  rintro r19 w19 ⟨hs19, vm, hr19, _, hgm⟩
  rw [hE2] at hr19
  subst hr19
  obtain ⟨mva, mvm, mve, rfl, hMA⟩ := hgm hE2
  have hM19 := hMA [] (by simp)
  refine x r_move <| x (r_extract rfl rfl) <|
    x (r_extract rfl rfl) <| xl rfl <| o_alloc (us := [.slice none 0 0, .int .i64 0, .slice none 0 0, .slice none 0 0]) rfl fun b16 w20 hs20 hb16 hB16 => xl rfl <| o_stores (us := [mva, .int .i64 (opA aP aT).st, mvm, mve]) hB16 rfl rfl rfl rfl ⟨hM19.al.one, rfl, hM19.mr.one, hM19.ed.one, trivial⟩ fun w21 hs21 hB1621 =>
    x r_assign <| xe ?_
  have hs1921 : Step [] w19 w21 := hs20.then1 hs21 hb16
  have hs1821 := hs19.trans hs1921
  have hs1421 := hs1418.trans hs1821
  have hL21 := hL18.ext hs1821
  have hM21 := hM19.ext hs1921
  have hB1421 := hB1418.ext hs1821
  have hI21 : Ints [] w21.heap vw uw := ((hI15.ext hs16).ext hs1618).ext hs1821
  have hP21 := hP14.ext hs1421
  have hB521 := hB514.ext hs1421
  have hW21 := hW14.trans hs1421
  refine exE (opA aP aS) fun A hA => exE (opA aP aT) fun B hB => ?_
  rw [hA] at hL21 hB1421 hcA hSome hAt hEnd hT hF
  rw [hB] at hM21 hB1621 hcB hSome hAt hEnd hT hF
  refine W_seq <| W_cut (α := Unit) [(57, 74)] (fun z => [(74, .bool false)]) (fun z w' => w' = w21) (by rfl) ?_ ?_
  · refine Or.elim (boolX is) (fun his => ?_) (fun his => ?_)
    · have hu0 : (uw.length : Int) = 0 := by rw [(hT his).2]; rfl
      refine W_region (by rfl) ?_
      refine x r_move <| x (r_neq rfl rfl) <| x r_move <| x r_move <| x (r_neq rfl rfl) <| x (r_pick rfl) <| x r_move <| x r_move <| x (r_neq rfl rfl) <| x (r_pick rfl) <| x r_move <| x (r_moveE (congrArg Value.bool his)) <| x r_move <| x r_move <| x (r_lenA hI21 rfl) <| x (r_neq (b := 0) (congrArg (Value.int .i64) hu0) rfl) <|
        x (r_pick rfl) <| x (r_pick rfl) <| xe ?_
      exact ⟨(), ⟨rfl, trivial⟩, rfl⟩
    · refine W_region (by rfl) ?_
      refine x r_move <| x (r_neq rfl rfl) <| x r_move <| x r_move <| x (r_neq rfl rfl) <| x (r_pick rfl) <| x r_move <| x r_move <| x (r_neq rfl rfl) <| x (r_pick rfl) <| x r_move <| x (r_moveE (congrArg Value.bool his)) <| x r_move <| xs rfl <| xs rfl <| xs rfl <|
        x (r_pick rfl) <| x (r_pick rfl) <| xe ?_
      exact ⟨(), ⟨rfl, trivial⟩, rfl⟩
  rintro _ g22 w22 rfl
  refine W_false rfl ?_
  refine W_skip ?_
  refine W_seq <| W_cut (α := Unit) [(75, 83)] (fun z => [(83, .bool false)]) (fun z w' => Step [] w22 w') (by rfl) ?_ ?_
  · refine Or.elim (boolX is) (fun his => ?_) (fun his => ?_)
    · refine W_region (by rfl) ?_
      refine x (r_moveE (congrArg Value.bool his)) <| x (r_not rfl) <| x r_move <| xs rfl <| xs rfl <| xs rfl <| xs rfl <| xs rfl <| x (r_pick rfl) <| xe ?_
      exact ⟨(), ⟨rfl, trivial⟩, Step.refl _ _⟩
    · have hdw := hSome uw (hF his)
      refine W_region (by rfl) ?_
      refine x (r_moveE (congrArg Value.bool his)) <| x (r_not rfl) <| x r_move <| x (r_loadsB hB1421 rfl rfl) <| x (r_loadsB hB1621 rfl rfl) <| x r_move <| xl rfl <| xf <| (differ30_ok hL21 hM21 hcA hcB hI21).mono ?_
      rintro r23 w23 ⟨hr23, hs23⟩
      rw [hdw] at hr23
      subst hr23
      refine x (r_not rfl) <| x (r_pick rfl) <| xe ?_
      exact ⟨(), ⟨rfl, trivial⟩, hs23⟩
  rintro _ g24 w24 hs24
  refine W_false rfl ?_
  refine W_skip ?_
  refine W_seq <| W_region (by rfl) ?_
  refine x (r_loadsB (hB521.ext hs24) rfl rfl) <| xl rfl <| xf <| (Words_ok (hP21.ext hs24) hcP hPb.p 5 (by decide)).mono ?_
  rintro r25 w25 ⟨hs25, hres⟩
  have hs2225 := hs24.trans hs25
  have hW25 := hW21.trans hs2225
  rcases hres with ⟨_, rfl⟩ | ⟨l, vl, ps, hl, rfl, hTs, hTm⟩
  · refine x r_move <| x (r_extract rfl rfl) <| x (r_extract rfl rfl) <| x r_assign <| x r_assign <| xe ?_
    refine W_seq <| W_seq <| W_region (by rfl) ?_
    refine x r_move <| x (r_neq rfl rfl) <| xe ?_
    refine W_true rfl ?_
    refine W_seq <| W_region (by rfl) ?_
    refine x r_move <| x (r_eql rfl rfl) <| x r_assign <| xe ?_
    exact W_ret ⟨[.bool true], ⟨rfl, trivial⟩, rfl, hW25⟩
  refine x r_move <| x (r_extract rfl rfl) <| x (r_extract rfl rfl) <| x r_assign <| x r_assign <| xe ?_
  refine W_seq <| W_seq <| W_region (by rfl) ?_
  refine x r_move <| x (r_neq rfl rfl) <| xe ?_
  refine W_false rfl ?_
  refine W_skip ?_
  have hAt' := hAt l hl
  have hEnd' := hEnd l hl
  have hll : l.length = ps.length := by rw [← hTm, List.length_map]
  have hL25 := hL21.ext hs2225
  have hM25 := hM21.ext hs2225
  have hI25 := hI21.ext hs2225
  have hB1425 := hB1421.ext hs2225
  have hB1625 := hB1621.ext hs2225
  have hpl := hTs.arr.le
  refine W_seq <| W_seq <| W_region (by rfl) ?_
  refine x r_assign <| xe ?_
  refine W_block <| W_loop (α := Nat) [(4, 4), (19, 19), (93, 115)] (fun z => [(19, .int .i64 z)]) (fun z w' => z ≤ ps.length ∧ Step [] w25 w' ∧ ∀ j (hj : j < l.length), j < z → dif A B (l[j]'hj) = false) (fun z => ps.length - z) (by rfl) 0 ⟨rfl, trivial⟩ ⟨Nat.zero_le _, Step.refl _ _, fun j hj h => by omega⟩ ?_
  rintro i g26 w26 ⟨hi, hs26, hno⟩
  refine W_seq <| W_seq <| W_region (by rfl) ?_
  refine x r_move <| x r_move <| x (r_lenA (hTs.arr.ext hs26) rfl) <| x (r_lss rfl rfl) <| xe ?_
  refine W_ifn rfl (fun h96 => ?_) (fun h96 => ?_)
  · refine W_exit ?_
    have hi2 : ps.length ≤ i := by have h97 : ¬ (i : Int) < (ps.length : Int) := h96; omega
    refine Or.elim (boolX is) (fun his => ?_) (fun his => ?_)
    · refine W_seq <| W_region (by rfl) ?_
      refine x (r_moveE (congrArg Value.bool his)) <| x r_move <| xs rfl <| xs rfl <| xs rfl <| x (r_pick rfl) <| x r_assign <| xe ?_
      exact W_ret ⟨[.bool true], ⟨rfl, trivial⟩, rfl, hW25.trans hs26⟩
    · have h5 := hEnd' (fun j hj => hno j hj (by omega)) uw (hF his)
      refine W_seq <| W_region (by rfl) ?_
      refine x (r_moveE (congrArg Value.bool his)) <| x r_move <| x r_move <| x (r_lenA (hI25.ext hs26) rfl) <| x (r_gtrT rfl rfl (by omega)) <| x (r_pick rfl) <| x r_assign <| xe ?_
      exact W_ret ⟨[.bool true], ⟨rfl, trivial⟩, rfl, hW25.trans hs26⟩
  have hlt : i < ps.length := by have h97 : (i : Int) < (ps.length : Int) := h96; omega
  have hil : i < l.length := by omega
  have hpe : (ps[i]'hlt).2 = l[i]'hil := by
    have : l[i]'hil = (ps.map (·.2))[i]'(by rw [List.length_map]; exact hlt) := by congr 1; exact hTm.symm
    rw [this, List.getElem_map]
  have hEi := hTs.each _ (List.getElem_mem hlt)
  rw [hpe] at hEi
  have hAt2 := hAt' i hil
  refine exE (ps[i]'hlt) fun pi hpi => exE (l[i]'hil) fun li hli => ?_
  rw [hpi, hli] at hEi
  rw [hli] at hAt2
  refine W_skip ?_
  refine W_seq <| W_block <| W_seq <| W_draw (Step [] w26) [(0, true), (1, true), (2, true), (3, true), (4, true), (5, true), (6, false)] Tryd.mixed (by rfl) (by kernel_rfl) (Step.drew _ _) ?_
  refine pq (fun _ hc => r_loadsB ((hB1425.ext hs26).ext hc) rfl rfl) <| pq (fun _ hc => r_loadsB ((hB1625.ext hs26).ext hc) rfl rfl) <| p (fun _ => r_move) <|
    p (fun _ => r_move) <| Lg.pig (g := tvCells) (i := i) rfl (fun _ => rfl) (hTs.arr.ext hs26) rfl rfl hlt fun a103 h103 => ?_
  rw [hpi] at h103
  have hc26 := Step.drew [] w26
  have hs2526 := hs26.trans hc26
  refine pq (fun _ hc => r_loadA (h103.ext hc) rfl) <| pk <| xf <| (differ30_ok (hL25.ext hs2526) (hM25.ext hs2526) hcA hcB (hEi.ext hs2526)).mono ?_
  rintro r28 w28 ⟨rfl, hs28⟩
  have hs2628 := hc26.trans hs28
  have hs2528 := hs26.trans hs2628
  refine ⟨hs2628, pe ?_⟩
  refine W_cond rfl (fun h105 => ?_) (fun h105 => ?_)
  · have hso := hAt2 h105 hno
    have his : is = false := Or.elim (boolX is) (fun h => by rw [(hT h).1] at hso; cases hso) id
    have hue : uw = li := by rw [hF his] at hso; exact Option.some.inj hso
    refine W_seq <| W_region (by rfl) ?_
    refine x (r_moveE (congrArg Value.bool his)) <| x (r_not rfl) <| x r_move <| x r_move <| x r_move <| x r_move <| xig (g := tvCells) (i := i) (fun _ => rfl) (hTs.arr.ext hs2528) rfl rfl hlt fun a112 h112 => ?_
    rw [hpi] at h112
    refine x (r_loadA h112 rfl) <| xl rfl <| xf <| (wEqual_ok (hI25.ext hs2528) (hEi.ext hs2528)).mono ?_
    rintro r29 w29 ⟨hr29, hs29⟩
    rw [decide_eq_true hue] at hr29
    subst hr29
    refine x (r_pick rfl) <| x r_assign <| xe ?_
    exact W_ret ⟨[.bool true], ⟨rfl, trivial⟩, rfl, (hW25.trans hs2528).trans hs29⟩
  refine W_skip ?_
  refine W_region (by rfl) ?_
  refine x r_move <| x (r_add rfl rfl ⟨by omega, by omega⟩) <| x r_assign <| xe ?_
  refine ⟨i + 1, by omega, ⟨rfl, trivial⟩, hlt, hs2528, fun j hj hji => ?_⟩
  rcases Nat.lt_or_ge j i with h1 | h1
  · exact hno j hj h1
  · have e : j = i := by omega
    subst e
    rw [hli]; exact h105
end Go.Proofs.YtfhgnlkdcdlblaaDoor
/- What a law's row asks of a call that returns true and turns nothing that was there. -/
namespace Go.Lg
open Go.ChangeShapes Go.WideShapes Go.RowKit
section
variable {H : Type} {enc : TypeId × Value → H} {P : Program}
/-- The arguments read as they did. -/
theorem carry_all (hl : laidOutB P = true) {W W' : World} (hS : Step [] W W') {sp : Nat → Bool} : ∀ {ts : List TypeId} {vs : List Value} {ds : List (DataW H)} {ps : List MemPlace},
    (ts.all fun t => P.readableRec t && decide (t < P.types.size)) = true → DataW.TrodAll enc P W 0 (fun _ => true) true ts vs ds ps → (∀ x ∈ ps, x.block < W.heap.size) → (∀ x ∈ ps, sp x.block = true) → DataW.TrodAll enc P W' 0 sp true ts vs ds ps
  | [], vs, ds, ps, _, h, _, _ => by
    obtain ⟨rfl, rfl, rfl⟩ := trodAll_nil h
    exact trodAll_mk0
  | t :: ts, vs, ds, ps, hr, h, hlt, hsp => by
    obtain ⟨v, vs1, d, ds1, a, b, rfl, rfl, rfl, h1, h2⟩ := trodAll_cons h
    simp only [List.all_cons, Bool.and_eq_true, decide_eq_true_eq] at hr
    have hb : Below W.heap.size W W' := hS.below
    refine trodAll_cons_mk (WideElems.Trod_stays hl hr.1.1 hr.1.2 h1 (fun x hx => hb.same (hlt x (List.mem_append_left _ hx))) (fun x hx => hsp x (List.mem_append_left _ hx))) ?_
    exact carry_all hl hS (by simpa using hr.2) h2 (fun x hx => hlt x (List.mem_append_right _ hx)) (fun x hx => hsp x (List.mem_append_right _ hx))
theorem law_post {f : Func} {s : ChangeSpec} {apart fresh handsOn again : Bool} {W W' : World} {args : Array Value} {ds gs : List (DataW H)} {before : List MemPlace} {tb : TypeId}
    (hl : laidOutB P = true) (hread : (f.params.toList.all fun t => P.readableRec t && decide (t < P.types.size)) = true) (hrt : f.resultTypes = #[tb]) (htb : P.underlying tb = some .bool) (hvr : s.vars = [])
    (hfn : s.fn H (ds ++ gs) = { results := [.lit (.bool true)], args := ds })
    (hW : DataW.Whole enc P f.params.toList s.vars apart W args.toList ds gs before) (hS : Step [] W W') : s.post enc P f apart fresh handsOn again W args (.bool true) W' := by
  have hlt := hW.lt
  have hW' := hW
  obtain ⟨p, q, hA, hV, rfl, hz, hn⟩ := hW
  rw [hvr] at hV
  obtain ⟨rfl, rfl⟩ := trodVars_none hV
  rw [List.append_nil] at *
  have hargs : ∀ sp : Nat → Bool, (∀ x ∈ p, sp x.block = true) → DataW.TrodAll enc P W' 0 sp true f.params.toList args.toList ds p := fun sp hsp => carry_all hl hS hread hA hlt hsp
  have hres : ∀ (b : Nat) (sp : Nat → Bool) (hd : Bool), DataW.TrodAll enc P W' b sp hd f.resultTypes.toList ((Value.bool true).resultList f.resultTypes.size) [.lit (.bool true)] [] := fun b sp hd => by
    rw [hrt]; exact trodAll_mk1 (shut_bool htb true)
  have hb : Below W.heap.size W W' := hS.below
  have hvars : ∀ sp : Nat → Bool, DataW.TrodVars enc P W' sp s.vars ([] : List (DataW H)) [] := fun sp => by rw [hvr]; rfl
  have hfn1 : (s.fn H ds).results = [.lit (.bool true)] := by rw [hfn]
  have hfn2 : (s.fn H ds).args = ds := by rw [hfn]
  have hfn3 : (s.fn H ds).vars = [] := by rw [hfn]
  have hok : ∀ (j : Nat) (t : TypeId) (r : Value), f.resultTypes[j]? = some t → ((Value.bool true).resultList f.resultTypes.size)[j]? = some r → Value.okWide P W' .any 0 t r := ok_one hrt rfl (okWide_bool_mk htb true)
  refine ⟨ds, [], p, [], p, [], hW', ?_, ?_, ?_, ?_, fun _ => ⟨hok, [.lit (.bool true)] ++ ds, [], ([] ++ p) ++ [], ⟨[] ++ p, [], ?_, ?_, rfl, ?_, ?_⟩, ?_⟩⟩
  · rw [List.append_nil, hfn1]; exact hres _ _ _
  · rw [List.append_nil, hfn2]; exact hargs _ (fun x hx => by simpa using hlt x hx)
  · rw [List.append_nil, hfn3]; exact hvars _
  · exact World.keptBut_mono (fun _ f => f.elim) (hb.frame (fun _ => False))
  · exact trodAll_append (hargs _ (fun _ _ => rfl)) (hres _ _ _)
  · exact hvars _
  · intro b off hp
    have hp' : MemPlace.cell b off ∈ p := by simpa using hp
    rw [hb.frozen (p := ⟨b, off, none⟩) (hlt _ hp')]
    exact hz b off hp'
  · intro ha
    have := hn ha
    simpa using this
  · intro x hx _
    simpa using hx
end
end Go.Lg
/- Arguments of laws: structs of bytes, slices of bytes. -/
namespace Go.Proofs.YtfhgnlkdcdlblaaDoor
open Go.ChangeShapes Go.WideShapes Go.RowKit Go.Lg

def isU8 (P : Program) (u : TypeId) : Bool := match P.underlying u with
  | some (.int .u8) => true
  | _ => false
theorem isU8_spec {P : Program} {u : TypeId} (h : isU8 P u = true) : P.underlying u = some (.int .u8) := by
  unfold isU8 at h
  split at h
  · assumption
  · cases h
theorem bys_of : ∀ (l : List Value), (∀ v ∈ l, ∃ n : Nat, v = .int .u8 (n : Int) ∧ n < 256) → ∃ ns : List Nat, l = bys ns ∧ ns.length = l.length ∧ ∀ n ∈ ns, n < 256
  | [], _ => ⟨[], rfl, rfl, by simp⟩
  | v :: l, h => by
    obtain ⟨n, rfl, hn⟩ := h v List.mem_cons_self
    obtain ⟨ns, h1, h2, h3⟩ := bys_of l (fun v hv => h v (List.mem_cons_of_mem _ hv))
    refine ⟨n :: ns, by rw [h1]; rfl, by simp [h2], fun m hm => ?_⟩
    rcases List.mem_cons.1 hm with rfl | hm
    · exact hn
    · exact h3 m hm
/-- A struct of bytes alone: its cells. -/
theorem bytes_of {P : Program} {W : World} {base t m : Nat} {v : Value} {fs : Array Field} (hu : P.underlying t = some (.struct fs)) (hts : ((P.cellTypes P.depth t).map fun ts => ts.all (isU8 P)) = some true) (hc : P.cellsOf t = m) (hval : Value.okWide P W .any base t v) :
    ∃ ns : List Nat, v = .agg (bys ns).toArray ∧ ns.length = m ∧ ∀ n ∈ ns, n < 256 := by
  simp only [Value.okWide, hu] at hval
  obtain ⟨cs, rfl, hsz, ts, hts', _, hcell⟩ := hval
  rw [hts'] at hts
  simp only [Option.map_some, Option.some.injEq] at hts
  obtain ⟨l⟩ := cs
  obtain ⟨ns, h1, h2, h3⟩ := bys_of l (fun v hv => by
    obtain ⟨i, hi, rfl⟩ := List.getElem_of_mem hv
    obtain ⟨u, hu1, hu2⟩ := hcell i l[i] (by simp [hi])
    have hu3 := isU8_spec (List.all_eq_true.1 hts u (List.mem_of_getElem? hu1))
    simp only [Cell.okWide, hu3] at hu2
    generalize l[i] = x at hu2
    cases x <;> simp only [Cell.ok, hu3] at hu2
    obtain ⟨rfl, hr⟩ := hu2
    simp only [IntKind.has] at hr
    rw [show IntKind.u8.min = 0 from rfl, show IntKind.u8.max = 255 from rfl] at hr
    rename_i n
    exact ⟨n.toNat, by rw [Int.toNat_of_nonneg hr.1], by omega⟩)
  subst h1
  refine ⟨ns, rfl, ?_, h3⟩
  rw [h2, ← hc, ← hsz]; rfl
theorem At.of_cell {w : World} {a : Addr} {u : Value} (h : w.cell? a = some u) : At [] w.heap a [u] := by
  have hc : cel w.heap a = some u := h
  refine ⟨by simp, ?_, fun j v hv => ?_⟩
  · unfold cel at hc
    cases hb : w.heap[a.block]? with
    | none => rw [hb] at hc; cases hc
    | some o => exact (Array.getElem?_eq_some_iff.1 hb).1
  · cases j with
    | zero => simp at hv; subst hv; rw [show a.add 0 = a by simp [Addr.add]]; exact hc
    | succ j => simp at hv
theorem wf_nat {n : Int} (h : (Lit.int .u8 n).wf = true) : ∃ m : Nat, n = m ∧ m < 256 := by
  simp only [Lit.wf, Bool.and_eq_true, decide_eq_true_eq] at h
  rw [show IntKind.u8.min = 0 from rfl, show IntKind.u8.max = 255 from rfl] at h
  exact ⟨n.toNat, by omega, by omega⟩
/-- The first bytes of a slice that is handed over. -/
theorem bytes_slice {H : Type} {enc : TypeId × Value → H} {P : Program} {W : World} {base : Nat} {sp : Nat → Bool} {held : Bool} {t e : TypeId} {ad : Option Addr} {nb cb : Nat} {d : DataW H} {ps : List MemPlace} (ht : P.underlying t = some (.slice e)) (he : P.underlying e = some (.int .u8)) (hc : P.cellsOf e = 1)
    (h : DataW.Trod enc P W base sp held t (.slice ad nb cb) d ps) (m : Nat) :
    ∃ ms : List Nat, ms.length = min nb m ∧ (∀ k (hk : k < ms.length), ∃ a, ad = some a ∧ At [] W.heap (a.add (k * 1)) [.int .u8 ((ms[k]'hk : Nat) : Int)]) ∧ ∀ n ∈ ms, n < 256 := by
  obtain ⟨fuel, hf⟩ := h
  rcases open_ints ht he hc hf with ⟨hcs, _⟩ | ⟨a, len, cap, zs, hcs, _, hl, _, hz, _, hcell, hwz⟩
  · simp [Value.cells] at hcs
    obtain ⟨rfl, rfl, rfl⟩ := hcs
    exact ⟨[], by simp, fun k hk => by simp at hk, by simp⟩
  · simp [Value.cells] at hcs
    obtain ⟨rfl, rfl, rfl⟩ := hcs
    have hzl : nb ≤ zs.length := by rw [hz]; split <;> omega
    have hget : ∀ k, k < min nb m → ∃ n : Nat, zs.getD k 0 = (n : Int) ∧ n < 256 := fun k hk => wf_nat (hwz _ (by simp [List.getD, show k < zs.length by omega]))
    refine ⟨(zs.take (min nb m)).map Int.toNat, by simp; omega, fun k hk => ⟨a, rfl, ?_⟩, fun n hn => ?_⟩
    · have hk' : k < min nb m := by simp at hk; omega
      obtain ⟨n, hn, _⟩ := hget k hk'
      have h1 := hcell k (by omega)
      rw [hn] at h1
      have e1 : (((zs.take (min nb m)).map Int.toNat)[k]'hk : Nat) = n := by
        rw [List.getElem_map, List.getElem_take]
        have : zs[k]'(by omega) = zs.getD k 0 := by simp [List.getD, show k < zs.length by omega]
        rw [this, hn]; rfl
      rw [e1, Nat.mul_one]
      exact At.of_cell h1
    · obtain ⟨z, hz', rfl⟩ := List.mem_map.1 hn
      obtain ⟨n, rfl, hn2⟩ := wf_nat (hwz z (List.mem_of_mem_take hz'))
      simpa using hn2
end Go.Proofs.YtfhgnlkdcdlblaaDoor
