/- Contract: product.Synchronous. -/
import Derived.Test.YtfhgnlkdcdlblaaDoorCk
namespace Go.Proofs.YtfhgnlkdcdlblaaDoor
open Go.Lg

theorem optD {α : Type} (o : Option α) : o = none ∨ ∃ t, o = some t := by cases o; exact .inl rfl; exact .inr ⟨_, rfl⟩
def zA : Value := .agg #[.slice none 0 0, .int .i64 0, .slice none 0 0, .slice none 0 0]
def nilS : Value := .slice none 0 0
/-- What Synchronous returns. -/
def SyRes (N : Nat) (H : Array Obj) (aa : List Aut) (va vt : Value) (c : Int) : Prop :=
  if ckP aa ≠ 0 then c = ckP aa ∧ va = zA ∧ vt = nilS else match sync aa with
    | none => c = 3 ∧ va = zA ∧ vt = nilS
    | some z => c = 0 ∧ AutF N H va z.1 ∧ TupF N H vt z.2
def syAdd (s : Sy) (u : List Int) : Sy := if u ∈ s.tup then s else ⟨s.tup ++ [u], s.mk', s.ed⟩
theorem syAdd_mk (s : Sy) (u : List Int) : (syAdd s u).mk' = s.mk' := by unfold syAdd; split <;> rfl
theorem syAdd_ed (s : Sy) (u : List Int) : (syAdd s u).ed = s.ed := by unfold syAdd; split <;> rfl
theorem syE_add {aa : List Aut} {i : Nat} {t u : List Int} {s : Sy} {v : Int} (h : stepT v aa t = some u) (hl : u ∈ s.tup ∨ s.tup.length ≠ 4096) :
    syE aa i t s v = some ⟨(syAdd s u).tup, (syAdd s u).mk', (syAdd s u).ed ++ [((i : Int), v, ((syAdd s u).tup.idxOf u : Int))]⟩ := by
  unfold syE syAdd
  rw [h]
  simp only []
  by_cases hu : u ∈ s.tup
  · simp only [if_pos hu]
  · simp only [if_neg hu]
    rw [if_neg (by rcases hl with h1 | h1; exact absurd h1 hu; exact h1), List.idxOf_append, if_neg hu]; simp
theorem syE_none {aa : List Aut} {i : Nat} {t u : List Int} {s : Sy} {v : Int} (h : stepT v aa t = some u) (hu : u ∉ s.tup) (hl : s.tup.length = 4096) : syE aa i t s v = none := by
  unfold syE
  rw [h]
  simp only []
  rw [if_neg hu, if_pos hl]
theorem syE_skip {aa : List Aut} {i : Nat} {t : List Int} {s : Sy} {v : Int} (h : stepT v aa t = none) : syE aa i t s v = some s := by
  unfold syE; rw [h]
theorem syT_q {s : Sy} {qs : List TV} {i : Nat} (hq : qs.map (·.2) = s.tup) (h : i < qs.length) : syT s i = qs[i].2 := by
  unfold syT; rw [← hq]; simp [List.getD, h]
theorem Vt.bd {aa : List Aut} {t : List Int} (h : Vt aa t) {m : Int} (hm : ∀ a ∈ aa, a.st ≤ m) : ∀ x ∈ t, 0 ≤ x ∧ x < m := by
  intro x hx
  obtain ⟨i, hi, rfl⟩ := List.getElem_of_mem hx
  have hi' : i < aa.length := by rw [← h.1]; exact hi
  have := h.2 i hi hi'
  have := hm aa[i] (List.getElem_mem hi')
  omega

set_option maxHeartbeats 20000000 in
theorem Synchronous_ok {L : List Nat} {w : World} {vl : Value} {ps : List AV} (h : Auts L w.heap vl ps) (hst : ∀ p ∈ ps, p.a.st ≤ 100) :
    Ret Tryd.prog 18 [vl] w fun r w' => Step [] w w' ∧ ∃ va vt c, r = .tuple #[va, vt, .int .i64 c] ∧ SyRes w.heap.size w'.heap (ps.map (·.a)) va vt c := by
  refine Ret.of_W Tryd.func18 rfl Tryd.ntmps18 Tryd.results18 (by simp) ?_
  generalize haa : ps.map (·.a) = aa
  refine W_seq <| W_region (by rfl) ?_
  refine xl rfl <| o_alloc (us := [.slice none 0 0, .int .i64 0, .slice none 0 0, .slice none 0 0]) rfl fun b2 w1 hs1 hb2 hB2 => x r_assign <| x r_assign <| xe ?_
  have hz1 := hs1.size
  have hl2 := hB2.lt
  refine W_seq <| W_seq <| W_region (by rfl) ?_
  refine x r_move <| xl rfl <| xf <| (pCheck_ok (h.ext hs1)).mono ?_
  rintro r2 w2 ⟨rfl, hs2⟩
  refine x r_assign <| xe ?_
  rw [haa]
  refine W_seq <| W_region (by rfl) ?_
  refine x r_move <| x (r_neq rfl rfl) <| xe ?_
  refine W_if rfl (fun h20 => ?_) (fun h20 => ?_)
  · refine W_seq <| W_region (by rfl) ?_
    refine x (r_build trivial) <| x r_move <| xl rfl <| o_stores (us := [.slice none 0 0, .int .i64 0, .slice none 0 0, .slice none 0 0]) (hB2.ext hs2) rfl rfl rfl rfl ⟨rfl, rfl, rfl, rfl, trivial⟩ fun w3 hs3 hB3 => x r_assign <| x r_assign <| xe ?_
    refine W_ret ⟨[zA, nilS, .int .i64 (ckP aa)], ⟨⟨_, rfl, run_loadVar_ag rfl (hB3.at (L := []) (by simp)).cells⟩, rfl, rfl, trivial⟩, (hs1.trans hs2).then1 hs3 hb2, zA, nilS, ckP aa, rfl, ?_⟩
    unfold SyRes; rw [if_pos h20]; exact ⟨rfl, rfl, rfl⟩
  have hck : ckP aa = 0 := Decidable.not_not.1 h20
  have hn : ps.length ≤ 12 := by
    unfold ckP at hck
    split at hck
    · cases hck
    · rename_i h1; rw [← haa] at h1; simp at h1; exact h1
  have hokA : ∀ a ∈ aa, Okay a := by
    unfold ckP at hck
    split at hck
    · cases hck
    · exact (ckL_zero aa).1 hck
  have hok : ∀ p ∈ ps, Okay p.a := fun p hp => hokA p.a (by rw [← haa]; exact List.mem_map_of_mem hp)
  have hal : ∀ p ∈ ps, p.a.al.length ≤ 32 := fun p hp => (hok p hp).al_le
  have hstA : ∀ a ∈ aa, a.st ≤ 100 := fun a ha => by rw [← haa] at ha; obtain ⟨p, hp, rfl⟩ := List.mem_map.1 ha; exact hst p hp
  have hlenA : aa.length = ps.length := by rw [← haa]; simp
  refine W_skip ?_
  refine W_seq <| W_region (by rfl) ?_
  refine x r_move <| xl rfl <| xf <| (open_ok (L := [b2]) (((h.up (fun b hb => .inr (by simp at hb; omega))).ext hs1).ext hs2) hn hal (fun b hb => by simp at hb; have := hs2.size; omega)).mono ?_
  rintro r4 w4 ⟨hs4, ve, vs, ms, rfl, hM4, hve4⟩
  rw [haa] at hve4
  have hvl := h.arr.one
  have hel := evs_len aa (fun a ha => (hokA a ha).al_le)
  have hevl : (evs aa).length ≤ 1000 := by omega
  have hveA := IntsO.ints (L := []) hve4 (by omega) (by simp)
  refine xl rfl <| o_alloc (us := [.slice none 0 0, .slice none 0 0, .slice none 0 0]) rfl fun b6 w5 hs5 hb6 hB6 => xl rfl <| o_stores (us := [vl, ve, vs]) hB6 rfl rfl rfl rfl ⟨hvl, hveA.one, hM4.sl.one, trivial⟩ fun w6 hs6 hB6 => xe ?_
  have hs46 : Step [] w4 w6 := hs5.then1 hs6 hb6
  have hz2 := hs2.size
  have hz4 := hs4.size
  have hz6 := hs46.size
  have hl6 := hB6.lt
  refine W_seq <| W_region (by rfl) ?_
  have hB2' := ((hB2.ext hs2).ext hs4).ext hs46
  refine x (r_fieldB rfl) <| x (r_loadB hB6 rfl rfl) <| x (r_fieldB rfl) <| xl rfl <| o_store hB2' rfl rfl (by simp) hveA.one fun w7 hs7 hB7 => xe ?_
  have hz7 := hs7.size
  have hW7 : Step [] w w7 := ((((hs1.trans hs2).trans hs4).trans hs46).then1 hs7 hb2)
  have hM7 : Mach [b2] w7.heap vl ve vs ps ms := (hM4.ext hs46).st hs7
  have hve7 : IntsO 3 w2.heap.size w7 ve (evs aa) := own_step (own_ext hve4 hs46) hs7 (fun b hb => by have := (own_ge hve4 b hb).1; simp; omega)
  have hB6' := hB6.step hs7 (by simp; omega)
  refine W_seq <| W_region (by rfl) ?_
  refine x (r_loadsB hB6' rfl rfl) <| xl rfl <| xf <| (initial_ok hM7 hn).mono ?_
  rintro r8 w8 ⟨hs8, hr8⟩
  have hz8 := hs8.size
  have hB8 := hB7.ext hs8
  have hexA : (∃ p ∈ ps, p.a.st = 0) ↔ (∃ a ∈ aa, a.st = 0) := by
    rw [← haa]
    constructor
    · rintro ⟨p, hp, h0⟩; exact ⟨p.a, List.mem_map_of_mem hp, h0⟩
    · rintro ⟨a, ha, h0⟩; obtain ⟨p, hp, rfl⟩ := List.mem_map.1 ha; exact ⟨p, hp, h0⟩
  by_cases hz : ∃ p ∈ ps, p.a.st = 0
  · rw [if_pos hz] at hr8
    subst hr8
    refine x r_move <| x (r_extract rfl rfl) <| x (r_extract rfl rfl) <| x r_assign <| x r_assign <| xe ?_
    refine W_seq <| W_seq <| W_region (by rfl) ?_
    refine x r_move <| x (r_not rfl) <| xe ?_
    refine W_true rfl ?_
    refine W_seq <| W_region (by rfl) ?_
    refine x (r_loadsB hB8 rfl rfl) <| xl rfl <| o_stores (us := [ve, .int .i64 0, .slice none 0 0, .slice none 0 0]) hB8 rfl rfl rfl rfl ⟨hveA.one, rfl, rfl, rfl, trivial⟩ fun w9 hs9 hB9 => x r_assign <| x r_assign <| xe ?_
    refine W_ret ⟨[.agg #[ve, .int .i64 0, .slice none 0 0, .slice none 0 0], nilS, .int .i64 0], ⟨⟨_, rfl, run_loadVar_ag rfl (hB9.at (L := []) (by simp)).cells⟩, rfl, rfl, trivial⟩, (hW7.trans hs8).then1 hs9 hb2, _, nilS, 0, rfl, ?_⟩
    unfold SyRes
    rw [if_neg h20]
    unfold sync
    rw [if_pos (hexA.1 hz)]
    have hve9 := own_step (own_ext hve7 hs8) hs9 (fun b hb => by have := (own_ge hve4 b hb).1; simp; omega)
    refine ⟨rfl, ⟨ve, _, _, rfl, fun L' hL' => ⟨IntsO.ints hve9 (by show (evs aa).length ≤ _; omega) (fun b hb => by have := hL' b hb; omega), Arr.nil _ _ _, Arr.nil _ _ _⟩⟩, [], rfl, fun L' hL' => ⟨Arr.nil _ _ _, fun p hp => by cases hp⟩⟩
  rw [if_neg hz] at hr8
  obtain ⟨vf, rfl, hf8⟩ := hr8
  have hfA := IntsO.ints (L := []) hf8 (by simp; omega) (by simp)
  refine x r_move <| x (r_extract rfl rfl) <| x (r_extract rfl rfl) <| x r_assign <| x r_assign <| xe ?_
  refine W_seq <| W_seq <| W_region (by rfl) ?_
  refine x r_move <| x (r_not rfl) <| xe ?_
  refine W_false rfl ?_
  refine W_skip ?_
  refine W_seq <| W_region (by rfl) ?_
  refine x r_move <| xl rfl <| o_lits (us := [[vf]]) rfl rfl (by decide) (by simp) ⟨hfA.cells, rfl, trivial⟩ fun b37 w10 hs10 hb37 hB37 => x r_assign <| xe ?_
  have hz10 := hs10.size
  have hl37 := hB37.lt
  refine W_seq <| W_region (by rfl) ?_
  refine xl rfl <| o_makeMap kStr fun b38 w11 hs11 hb38 hm11 => ?_
  have hz11 := hs11.size
  have hl38 := hm11.lt
  refine x r_move <| xl rfl <| xf <| (key_ok ((hfA.ext hs10).ext hs11) (fun n hn => by have := List.eq_of_mem_replicate hn; omega) (by simp; omega)).mono ?_
  rintro r12 w12 ⟨rfl, hs12⟩
  have hz12 := hs12.size
  refine xl rfl <| o_insert (k := keyA (List.replicate ps.length 0)) (hm11.ext hs12) rfl rfl fun wS hs13 hmS => x r_move <| x r_assign <| xe ?_
  have hzS := hs13.size
  have hs812 : Step [] w8 w12 := (hs10.trans hs11).trans hs12
  have hs8S : Step [] w8 wS := hs812.then1 hs13 (by omega)
  have hWS : Step [] w wS := (hW7.trans hs8).trans hs8S
  have hzWS := hWS.size
  -- what stands at the start of the search
  have hnew : ∀ b ∈ [b2, b38, b37], b ∈ [b2] ∨ w8.heap.size ≤ b := fun b hb => by
    simp only [List.mem_cons, List.not_mem_nil, or_false] at hb
    rcases hb with rfl | rfl | rfl
    · exact .inl (by simp)
    · exact .inr (by omega)
    · exact .inr (by omega)
  have hMS : Mach [b2, b38, b37] wS.heap vl ve vs ps ms := ((hM7.ext hs8).up hnew).ext hs8S
  have hB6S : Blk wS.heap b6 104 [vl, ve, vs] := (hB6'.ext hs8).ext hs8S
  have hveS : IntsO 3 w2.heap.size wS ve (evs aa) := own_ext (own_ext hve7 hs8) hs8S
  have hvelt := own_lt hve4
  have hgef := own_ge hf8
  have hSN : SyN w1.heap.size b2 b38 b37 wS := ⟨by omega, by omega, by omega, by omega, by omega, by omega⟩
  have hSI : SyI w1.heap.size b2 b38 b37 ve wS (sy0 aa) (mput [] (keyA (List.replicate ps.length 0)) (.int .i64 0)) [(vf, List.replicate ps.length 0)] (.slice (some ⟨b37, 0, none⟩) 1 1) nilS nilS wS := by
    refine ⟨Step.refl _ _, hB8.ext hs8S, hmS, ?_, fun b hb => by simp [ob] at hb; exact .inl hb, own_nil _ _ _ _, own_nil _ _ _ _, by simp [sy0, hlenA], fun p hp => ?_, fun p hp b hb => ?_, Dj.nil' _, Dj.nil' _, Dj.nil' _⟩
    · exact (((hB37.ext hs11).ext hs12).step hs13 (by simp; omega)).own (n := 1) (sz := 1) rfl (by omega) (by omega)
    · simp only [List.mem_singleton] at hp; subst hp
      exact own_base (own_ext hf8 hs8S) (by omega)
    · simp only [List.mem_singleton] at hp; subst hp
      have := hgef b hb
      refine ⟨by omega, ?_, by simp [ob, nilS], by simp [ob, nilS]⟩
      simp [ob]; omega
  have hkn0 : KnOk ps.length (mput [] (keyA (List.replicate ps.length 0)) (.int .i64 0)) (sy0 aa).tup := by
    have hk0 : KnOk ps.length [] [] := fun u _ _ => rfl
    have := hk0.add (u := List.replicate ps.length 0) (by simp) (fun x hx => by have := List.eq_of_mem_replicate hx; omega)
    simpa [sy0, hlenA] using this
  have hok0 : SyOk aa (sy0 aa) := by
    refine ⟨fun t ht => ?_, by simp [sy0]⟩
    simp only [sy0, List.mem_singleton] at ht
    subst ht
    refine ⟨by simp, fun i h1 h2 => ?_⟩
    have h3 := (hokA aa[i] (List.getElem_mem h2)).st0
    have h4 : aa[i].st ≠ 0 := fun e => hz (hexA.2 ⟨aa[i], List.getElem_mem h2, e⟩)
    simp only [List.getElem_replicate]; omega
  generalize hT : syL aa 4096 0 (sy0 aa) = T
  have hfinal : ∀ s, T = some s → sync aa = some (⟨evs aa, s.tup.length, s.mk', s.ed⟩, s.tup) := fun s hs => by
    unfold sync; rw [if_neg (fun e => hz (hexA.2 e)), hT, hs]; rfl
  have hfinalN : T = none → sync aa = none := fun hs => by unfold sync; rw [if_neg (fun e => hz (hexA.2 e)), hT, hs]; rfl
  refine W_seq <| W_seq <| W_region (by rfl) ?_
  refine x r_assign <| xe ?_
  have hb6S : b6 ∉ [b2, b38, b37] := by simp; omega
  -- the search
  refine W_block <| W_loop (α := Nat × Sy × List (ByteArray × Value) × List TV × Value × Value × Value) [(3, 4), (10, 10), (12, 16), (42, 111)] (fun z => [(3, z.2.2.2.2.1), (10, .int .i64 z.1)])
    (fun z w' => SyI w1.heap.size b2 b38 b37 ve wS z.2.1 z.2.2.1 z.2.2.2.1 z.2.2.2.2.1 z.2.2.2.2.2.1 z.2.2.2.2.2.2 w' ∧ SyOk aa z.2.1 ∧ KnOk ps.length z.2.2.1 z.2.1.tup ∧ z.1 ≤ z.2.1.tup.length ∧ z.2.1.mk'.length ≤ z.1 ∧ z.2.1.ed.length ≤ z.1 * 1000 ∧ syL aa (4096 - z.1) z.1 z.2.1 = T)
    (fun z => 4096 - z.1) (by rfl) (0, sy0 aa, _, _, _, nilS, nilS) ⟨rfl, rfl, trivial⟩ ⟨hSI, hok0, hkn0, Nat.zero_le _, Nat.zero_le _, Nat.zero_le _, hT⟩ ?_
  rintro ⟨i, s, m, qs, vt, vk, vd⟩ g w14 ⟨hI, hsk, hkn, hi, hmk, hed, hrun⟩
  simp only [] at hI hsk hkn hi hmk hed hrun
  have hle := hsk.le
  have hql : qs.length = s.tup.length := by rw [← hI.q]; simp
  have hqv : ∀ p ∈ qs, Vt aa p.2 := fun p hp => hsk.v p.2 (by rw [← hI.q]; exact List.mem_map_of_mem hp)
  have hqn : ∀ p ∈ qs, p.2.length ≤ 12 := fun p hp => by have := (hqv p hp).1; omega
  have htA := own_arr (L := []) hI.t (by omega) (by simp)
  refine W_seq <| W_seq <| W_region (by rfl) ?_
  refine x r_move <| x r_move <| x (r_lenA htA rfl) <| x (r_lss rfl rfl) <| xe ?_
  refine W_ifn rfl (fun h45 => ?_) (fun h45 => ?_)
  · have hend : T = some s := by rw [← hrun, syL_done (by omega)]
    refine W_exit ?_
    refine W_seq <| W_region (by rfl) ?_
    refine x r_move <| x (r_lenA htA rfl) <| x (r_fieldB rfl) <| xl rfl <| o_store hI.A rfl rfl (by simp) rfl fun w15 hs15 hB15 => xe ?_
    refine W_seq <| W_region (by rfl) ?_
    have hkA := IntsO.ints (L := []) hI.k (by omega) (by simp)
    have heA := EdsO.eds (L := []) hI.e (by omega) (by simp)
    refine x (r_loadsB hB15 rfl rfl) <| x r_move <| xl rfl <| o_stores (us := [ve, .int .i64 qs.length, vk, vd]) hB15 rfl rfl rfl rfl ⟨hveA.one, rfl, hkA.one, heA.one, trivial⟩ fun w16 hs16 hB16 => x r_assign <| x r_assign <| xe ?_
    have hs1516 : Step [b2] w14 w16 := hs15.trans' hs16
    have hfin : Step [] w w16 := (hWS.then hI.st (fun b hb => .inr (by simp at hb; omega))).then1 hs1516 hb2
    refine W_ret ⟨[.agg #[ve, .int .i64 qs.length, vk, vd], vt, .int .i64 0], ⟨⟨_, rfl, run_loadVar_ag rfl (hB16.at (L := []) (by simp)).cells⟩, rfl, rfl, trivial⟩, hfin, _, vt, 0, rfl, ?_⟩
    unfold SyRes
    rw [if_neg h20, hfinal s hend]
    have e1 : (qs.length : Int) = s.tup.length := by rw [hql]
    have k0 : IntsO 3 w2.heap.size w16 ve (evs aa) := own_step (own_step hveS hI.st (fun b hb => by have := (own_ge hve4 b hb).1; have := hvelt b hb; simp; omega)) hs1516 (fun b hb => by have := (own_ge hve4 b hb).1; simp; omega)
    have k1 := own_step hI.k hs1516 (fun b hb => by have := (own_ge hI.k b hb).1; simp; omega)
    have k2 := own_step hI.e hs1516 (fun b hb => by have := (own_ge hI.e b hb).1; simp; omega)
    have k3 := own_step hI.t hs1516 (fun b hb => by have := (own_ge hI.t b hb).1; simp; omega)
    refine ⟨rfl, ⟨ve, vk, vd, by rw [e1], fun L' hL' => ⟨IntsO.ints k0 (by show (evs aa).length ≤ _; omega) (fun b hb => by have := hL' b hb; omega), IntsO.ints k1 (by show s.mk'.length ≤ _; omega) (fun b hb => by have := hL' b hb; omega), EdsO.eds k2 (by show s.ed.length ≤ _; omega) (fun b hb => by have := hL' b hb; omega)⟩⟩, qs, hI.q, fun L' hL' => ⟨?_, fun p hp => ?_⟩⟩
    · exact own_arr k3 (by omega) (fun b hb hbL => by have := (own_ge hI.t b hb).1; have := hL' b hbL; omega)
    · exact IntsO.ints (own_step (hI.el p hp) hs1516 (fun b hb => by have := (own_ge (hI.el p hp) b hb).1; simp; omega)) (by have := hqn p hp; omega) (fun b hb => by have := hL' b hb; omega)
  have hlt : i < s.tup.length := by omega
  have hltq : i < qs.length := by omega
  have hsyT := syT_q hI.q hltq
  have htv := hqv (qs[i]'hltq) (List.getElem_mem hltq)
  obtain ⟨t, htdef⟩ : ∃ t, (qs[i]'hltq).2 = t := ⟨_, rfl⟩
  rw [htdef] at hsyT htv
  refine W_skip ?_
  have hrun2 : (syEs aa i t (evs aa) (syMark aa i t s)).bind (syL aa (4096 - (i + 1)) (i + 1)) = T := by
    rw [← hrun]
    obtain ⟨f, hf⟩ : ∃ f, 4096 - i = f + 1 := ⟨4096 - i - 1, by omega⟩
    rw [hf, syL, if_pos hlt, hsyT, show 4096 - (i + 1) = f by omega]
  have hM14 := hMS.st hI.st
  have hM14' : Mach [] w14.heap vl ve vs ps ms := hM14.up (fun _ hb => by cases hb)
  have hB614 := hB6S.step hI.st hb6S
  have htI : Ints [] w14.heap (qs[i]'hltq).1 t := by rw [← htdef]; exact IntsO.ints (hI.el (qs[i]'hltq) (List.getElem_mem hltq)) (by have := hqn (qs[i]'hltq) (List.getElem_mem hltq); omega) (by simp)
  refine W_seq <| W_block <| W_cut (α := Value) [(48, 59)] (fun z => []) (fun z w' => SyI w1.heap.size b2 b38 b37 ve wS (syMark aa i t s) m qs vt z vd w') (by rfl) ?_ ?_
  · refine W_seq <| W_draw (Step [] w14) [(0, true), (1, true), (2, true), (3, true), (4, true), (5, false)] Tryd.mixed (by rfl) (by kernel_rfl) (Step.drew _ _) ?_
    refine pq (fun _ hc => r_loadsB (hB614.ext hc) rfl rfl) <| p (fun _ => r_move) <| p (fun _ => r_move) <| pig rfl tv_len htA rfl rfl hltq fun a51 h51 =>
      pq (fun _ hc => r_loadA (h51.ext hc) rfl) <| pk <| xf <| (marked_ok (hM14'.ext (Step.drew _ _)) (htI.ext (Step.drew _ _)) (by rw [htv.1, hlenA]) (fun p hp => (hok p hp).mri) hn).mono ?_
    rintro r17 w17 ⟨rfl, hs17⟩
    have hs17' := (Step.drew [] w14).trans hs17
    refine ⟨hs17', ?_⟩
    refine pe ?_
    have hI17 := hI.ext hs17'
    refine W_cond rfl (fun h53 => ?_) (fun h53 => ?_)
    rotate_left
    · refine W_skip ?_
      refine ⟨vk, trivial, ?_⟩
      rw [haa] at h53
      unfold syMark; rw [if_neg (by rw [h53]; simp)]; exact hI17
    refine W_region (by rfl) ?_
    refine x (r_fieldB rfl) <| x (r_loadB hI17.A rfl rfl) <| x r_move <| xl rfl <| o_lits (us := [[.int .i64 i]]) rfl rfl (by decide) (by simp) ⟨rfl, rfl, trivial⟩ fun b57 w18 hs18 hb57 hB57 => ?_
    have hI18 := hI17.ext hs18
    refine xl rfl <| o_app (news := [.int .i64 i]) (L := []) hI18.k rfl rfl rfl (hB57.at (by simp)) (by simp [Value.oneCell']) (by omega) hI18.st.size fun v19 w19 ho19 hs19 hn19 => ?_
    have hk19 : IntsO 3 wS.heap.size w19 v19 (s.mk' ++ [(i : Int)]) := IntsO.snoc ho19
    refine x (r_fieldB rfl) <| xl rfl <| o_store (hI18.A.step hs19 (own_notin hI18.k (by omega))) rfl rfl (by simp) (IntsO.ints (L := []) hk19 (by simp; omega) (by simp)).one fun w20 hs20 hB20 => xe ?_
    refine ⟨v19, trivial, ?_⟩
    rw [haa] at h53
    unfold syMark; rw [if_pos h53]
    exact hI18.setK hSN hs19 hk19 hn19 hs20 hB20
  rintro vk2 g3 w21 hI2
  have hsk2 : SyOk aa (syMark aa i t s) := syMark_ok hsk
  have htup2 : (syMark aa i t s).tup = s.tup := by unfold syMark; split <;> rfl
  have hed2 : (syMark aa i t s).ed = s.ed := by unfold syMark; split <;> rfl
  have hmk2 : (syMark aa i t s).mk'.length ≤ i + 1 := by
    unfold syMark; split
    · simp only [List.length_append, List.length_singleton]; omega
    · omega
  have hveI : Ints [b2, b38, b37] wS.heap ve (evs aa) := by have := hMS.ev; rw [haa] at this; exact this
  refine W_seq <| W_region (by rfl) ?_
  refine x (r_fieldB rfl) <| x (r_loadB (hB6S.step hI2.st hb6S) rfl rfl) <| x (r_lenA hveI rfl) <| x r_move <| xe ?_
  -- the events
  refine W_block <| W_loop (α := Nat × Sy × List (ByteArray × Value) × List TV × Value × Value) [(3, 4), (12, 16), (63, 111)] (fun z => [(3, z.2.2.2.2.1), (63, .int .i64 z.1)])
    (fun z w' => SyI w1.heap.size b2 b38 b37 ve wS z.2.1 z.2.2.1 z.2.2.2.1 z.2.2.2.2.1 vk2 z.2.2.2.2.2 w' ∧ SyOk aa z.2.1 ∧ KnOk ps.length z.2.2.1 z.2.1.tup ∧ z.1 ≤ (evs aa).length ∧ z.2.1.mk' = (syMark aa i t s).mk' ∧ z.2.1.ed.length ≤ i * 1000 + z.1 ∧
      (∃ h : i < z.2.2.2.1.length, (z.2.2.2.1[i]'h).2 = t) ∧ (syEs aa i t ((evs aa).drop z.1) z.2.1).bind (syL aa (4096 - (i + 1)) (i + 1)) = T)
    (fun z => (evs aa).length - z.1) (by rfl) (0, syMark aa i t s, m, qs, vt, vd) ⟨rfl, rfl, trivial⟩
    ⟨hI2, hsk2, by rw [htup2]; exact hkn, Nat.zero_le _, rfl, by rw [hed2]; simpa using hed, ⟨hltq, htdef⟩, hrun2⟩ ?_
  rintro ⟨j, s4, m4, qs4, vt4, vd4⟩ g4 w22 ⟨hI4, hsk4, hkn4, hj, hmk4, hed4, ⟨hlt4, ht4⟩, hrun4⟩
  simp only [] at hI4 hsk4 hkn4 hj hmk4 hed4 hrun4 hlt4 ht4
  have hql4 : qs4.length = s4.tup.length := by rw [← hI4.q]; simp
  have hle4 := hsk4.le
  refine W_seq <| W_region (by rfl) ?_
  refine x (r_lss rfl rfl) <| xe ?_
  refine W_seq <| W_ifn rfl (fun h64 => ?_) (fun h64 => ?_)
  · rw [List.drop_of_length_le (by omega), syEs] at hrun4
    refine W_exit ?_
    refine W_region (by rfl) ?_
    refine x r_move <| x (r_add rfl rfl ⟨by omega, by omega⟩) <| x r_assign <| xe ?_
    refine ⟨(i + 1, s4, m4, qs4, vt4, vk2, vd4), by simp only []; omega, ⟨rfl, rfl, trivial⟩, hI4, hsk4, hkn4, by simp only []; omega, by simp only []; rw [hmk4]; exact hmk2, by simp only []; omega, hrun4⟩
  have hltj : j < (evs aa).length := by omega
  rw [drop_cons hltj, syEs] at hrun4
  obtain ⟨v, hvj⟩ : ∃ v, (evs aa)[j] = v := ⟨_, rfl⟩
  rw [hvj] at hrun4
  refine W_skip ?_
  refine W_seq <| W_block <| W_seq <| W_region (by rfl) ?_
  have hveI4 := hveI.st hI4.st
  refine xii hveI4 rfl rfl hltj fun a65 h65 => ?_
  rw [hvj] at h65
  refine x (r_loadA h65 rfl) <| x r_assign <| xe ?_
  have hM22 := (hMS.st hI4.st).up (L' := []) (fun _ hb => by cases hb)
  have hB622 := hB6S.step hI4.st hb6S
  have htA4 := own_arr (L := []) hI4.t (by omega) (by simp)
  have htI4 : Ints [] w22.heap (qs4[i]'hlt4).1 t := by rw [← ht4]; exact IntsO.ints (hI4.el (qs4[i]'hlt4) (List.getElem_mem hlt4)) (by rw [ht4, htv.1]; omega) (by simp)
  refine W_seq <| W_draw (Step [] w22) [(0, true), (1, true), (2, true), (3, true), (4, true), (5, true), (6, false), (7, true), (8, true), (9, true), (10, true), (11, true)] Tryd.mixed (by rfl) (by kernel_rfl) (Step.drew _ _) ?_
  refine pq (fun _ hc => r_loadsB (hB622.ext hc) rfl rfl) <| p (fun _ => r_move) <| p (fun _ => r_move) <| pig rfl tv_len htA4 rfl rfl hlt4 fun a71 h71 =>
    pq (fun _ hc => r_loadA (h71.ext hc) rfl) <| p (fun _ => r_move) <| pk <| xf <| (pstep_ok (hM22.ext (Step.drew _ _)) (htI4.ext (Step.drew _ _)) (by rw [htv.1, hlenA]) (fun p hp => (hok p hp).ali) (fun p hp => (hok p hp).edi) hn _).mono ?_
  rintro r23 w23 ⟨hs23, hr23⟩
  rw [haa] at hr23
  have hs23' := (Step.drew [] w22).trans hs23
  refine ⟨hs23', ?_⟩
  have hI5 := hI4.ext hs23'
  have hz23 := hs23'.size
  have hz22 := hI4.st.size
  rcases optD (stepT v aa t) with hstp | ⟨u, hstp⟩
  · rw [hstp] at hr23
    subst hr23
    rw [syE_skip hstp] at hrun4
    refine p (fun _ => r_move) <| p (fun _ => r_extract rfl rfl) <| p (fun _ => r_extract rfl rfl) <| p (fun _ => r_assign) <| p (fun _ => r_assign) <| pe ?_
    refine W_seq <| W_seq <| W_region (by rfl) ?_
    refine x r_move <| x (r_not rfl) <| xe ?_
    refine W_true rfl ?_
    refine W_exit ?_
    refine W_region (by rfl) ?_
    refine x (r_add rfl rfl ⟨by omega, by omega⟩) <| x r_move <| xe ?_
    exact ⟨(j + 1, s4, m4, qs4, vt4, vd4), by simp only []; omega, ⟨rfl, rfl, trivial⟩, hI5, hsk4, hkn4, hltj, hmk4, by simp only []; omega, ⟨hlt4, ht4⟩, hrun4⟩
  · rw [hstp] at hr23
    obtain ⟨vx, rfl, hx23⟩ := hr23
    have huv := stepT_valid hokA htv hstp
    have hul : u.length = ps.length := by rw [huv.1, hlenA]
    have hub := huv.bd hstA
    have hu0 : ∀ x ∈ u, 0 ≤ x := fun x hx => (hub x hx).1
    refine p (fun _ => r_move) <| p (fun _ => r_extract rfl rfl) <| p (fun _ => r_extract rfl rfl) <| p (fun _ => r_assign) <| p (fun _ => r_assign) <| pe ?_
    refine W_seq <| W_seq <| W_region (by rfl) ?_
    refine x r_move <| x (r_not rfl) <| xe ?_
    refine W_false rfl ?_
    refine W_skip ?_
    have hxA := IntsO.ints (L := []) hx23 (by omega) (by simp)
    have hgex := own_ge hx23
    refine W_cut (α := Unit) [(15, 16), (79, 85)] (fun z => [(15, .int .i64 (if u ∈ s4.tup then (s4.tup.idxOf u : Int) else 0)), (16, .bool (decide (u ∈ s4.tup)))]) (fun z w' => Step [] w23 w') (by rfl) ?_ ?_
    · refine W_region (by rfl) ?_
      refine x r_move <| x r_move <| xl rfl <| xf <| (key_ok hxA hub (by omega)).mono ?_
      rintro r24 w24 ⟨rfl, hs24⟩
      by_cases hu : u ∈ s4.tup
      · refine x (r_lookupS (k := keyA u) ((hI5.ext hs24).M) rfl rfl (by rw [hkn4 u hul hu0, if_pos hu])) <| x r_move <| x (r_extract rfl rfl) <| x (r_extract rfl rfl) <| x r_assign <| x r_assign <| xe ?_
        exact ⟨(), ⟨congrArg (Value.int .i64) (if_pos hu).symm, congrArg Value.bool (decide_eq_true hu).symm, trivial⟩, hs24⟩
      · refine x (r_lookupN (k := keyA u) ((hI5.ext hs24).M) rfl rfl (by rw [hkn4 u hul hu0, if_neg hu])) <| x r_move <| x (r_extract rfl rfl) <| x (r_extract rfl rfl) <| x r_assign <| x r_assign <| xe ?_
        exact ⟨(), ⟨congrArg (Value.int .i64) (if_neg hu).symm, congrArg Value.bool (decide_eq_false hu).symm, trivial⟩, hs24⟩
    rintro _ g6 w25 hs25
    have hI6 := hI5.ext hs25
    have hx25 := own_ext hx23 hs25
    have hxA25 := hxA.ext hs25
    have hz25 := hs25.size
    have hadd : ∀ b ∈ ob vx, b ∉ ob vt4 ∧ b ∉ ob vk2 ∧ b ∉ ob vd4 := fun b hb => by
      have h1 := (hgex b hb).1
      have h1' : w22.heap.size ≤ b := h1
      exact ⟨fun hb' => by have := own_lt hI4.t b hb'; omega, fun hb' => by have := own_lt hI4.k b hb'; omega, fun hb' => by have := own_lt hI4.e b hb'; omega⟩
    refine W_cut (α := List (ByteArray × Value) × List TV × Value) [(3, 4), (15, 15), (86, 101)] (fun z => [(3, z.2.2), (15, .int .i64 ((syAdd s4 u).tup.idxOf u : Int))])
      (fun z w' => SyI w1.heap.size b2 b38 b37 ve wS (syAdd s4 u) z.1 z.2.1 z.2.2 vk2 vd4 w' ∧ (u ∈ s4.tup ∨ s4.tup.length ≠ 4096) ∧ KnOk ps.length z.1 (syAdd s4 u).tup ∧ ∃ h : i < z.2.1.length, (z.2.1[i]'h).2 = t) (by rfl) ?_ ?_
    · refine W_seq <| W_region (by rfl) ?_
      refine x r_move <| x (r_not rfl) <| xe ?_
      refine W_cond rfl (fun h87 => ?_) (fun h87 => ?_)
      rotate_left
      · have hu : u ∈ s4.tup := by simpa using h87
        refine W_skip ?_
        have e1 : syAdd s4 u = s4 := by unfold syAdd; rw [if_pos hu]
        have e2 : (if u ∈ s4.tup then (s4.tup.idxOf u : Int) else 0) = ((syAdd s4 u).tup.idxOf u : Int) := by rw [e1, if_pos hu]
        refine ⟨(m4, qs4, vt4), ⟨rfl, congrArg (Value.int .i64) e2, trivial⟩, ?_, .inl hu, ?_, hlt4, ht4⟩
        · rw [e1]; exact hI6
        · rw [e1]; exact hkn4
      have hu : u ∉ s4.tup := by simpa using h87
      have htA6 := own_arr (L := []) hI6.t (by omega) (by simp)
      refine W_seq <| W_seq <| W_region (by rfl) ?_
      refine x r_move <| x (r_lenA htA6 rfl) <| x (r_eql rfl rfl) <| xe ?_
      refine W_if rfl (fun h90 => ?_) (fun h90 => ?_)
      · refine W_seq <| W_region (by rfl) ?_
        refine x (r_build trivial) <| xl rfl <| o_stores (us := [.slice none 0 0, .int .i64 0, .slice none 0 0, .slice none 0 0]) hI6.A rfl rfl rfl rfl ⟨rfl, rfl, rfl, rfl, trivial⟩ fun w26 hs26 hB26 => x r_assign <| x r_assign <| xe ?_
        refine W_ret ⟨[zA, nilS, .int .i64 3], ⟨⟨_, rfl, run_loadVar_ag rfl (hB26.at (L := []) (by simp)).cells⟩, rfl, rfl, trivial⟩, (hWS.then hI6.st (fun b hb => .inr (by simp at hb; omega))).then1 hs26 hb2, zA, nilS, 3, rfl, ?_⟩
        unfold SyRes
        rw [syE_none hstp hu (by omega)] at hrun4
        rw [if_neg h20, hfinalN hrun4.symm]
        exact ⟨rfl, rfl, rfl⟩
      have hl4 : s4.tup.length ≠ 4096 := by omega
      refine W_skip ?_
      refine W_seq <| W_region (by rfl) ?_
      refine x r_move <| x (r_lenA htA6 rfl) <| x r_assign <| xe ?_
      refine W_seq <| W_region (by rfl) ?_
      refine x r_move <| x r_move <| xl rfl <| xf <| (key_ok hxA25 hub (by omega)).mono ?_
      rintro r26 w26 ⟨rfl, hs26⟩
      have hI7 := hI6.ext hs26
      refine x r_move <| xl rfl <| o_update (k := keyA u) hI7.M rfl rfl fun w27 hs27 hm27 => xe ?_
      have hI8 := hI7.setM hSN hs27 hm27
      have hx27 := own_step (own_ext hx25 hs26) hs27 (fun b hb => by have := (hgex b hb).1; have h1' : w22.heap.size ≤ b := this; simp; omega)
      refine W_region (by rfl) ?_
      refine x r_move <| x r_move <| xl rfl <| o_lits (us := [[vx]]) rfl rfl (by decide) (by simp) ⟨hxA.cells, rfl, trivial⟩ fun b100 w28 hs28 hb100 hB100 => ?_
      have hI9 := hI8.ext hs28
      refine xl rfl <| o_app (news := [vx]) (L := []) hI9.t rfl rfl rfl (hB100.at (by simp)) (fun y hy => by simp only [List.mem_singleton] at hy; subst hy; exact hxA.one) (by omega) (by have := hI9.st.size; have := hSN.nS; omega) fun v29 w29 ho29 hs29 hn29 => x r_assign <| xe ?_
      have hk29 : TupO 32 w1.heap.size w29 v29 (qs4 ++ [(vx, u)]) := TupO.snoc ho29
      have hIA := hI9.setT hSN (u := u) (own_base (own_ext hx27 hs28) (by show wS.heap.size ≤ w22.heap.size; omega)) hadd hs29 hk29 hn29
      have e1 : syAdd s4 u = ⟨s4.tup ++ [u], s4.mk', s4.ed⟩ := by unfold syAdd; rw [if_neg hu]
      have e2 : (qs4.length : Int) = ((syAdd s4 u).tup.idxOf u : Int) := by
        rw [e1]
        simp only []
        rw [List.idxOf_append, if_neg hu, ← hql4]; simp
      refine ⟨(mput m4 (keyA u) (.int .i64 (qs4.length : Int)), qs4 ++ [(vx, u)], v29), ⟨rfl, congrArg (Value.int .i64) e2, trivial⟩, ?_, .inr hl4, ?_, by simp; omega, ?_⟩
      · rw [e1]; exact hIA
      · rw [e1]
        simp only []
        rw [hql4]; exact hkn4.add hu hu0
      · simp only []
        rw [List.getElem_append_left hlt4]; exact ht4
    rintro ⟨m5, qs5, vt5⟩ g7 w30 ⟨hI10, hlim, hkn5, hlt5, ht5⟩
    simp only [] at hI10 hkn5 hlt5 ht5
    have hed5 : (syAdd s4 u).ed.length ≤ i * 1000 + j := by rw [syAdd_ed]; exact hed4
    have hsy := syE_add (aa := aa) (i := i) (s := s4) hstp hlim
    have hsk5 := syE_ok hokA hsk4 htv hsy
    rw [hsy] at hrun4
    refine W_region (by rfl) ?_
    refine x (r_fieldB rfl) <| x (r_loadB hI10.A rfl rfl) <| x r_move <| x r_move <| x r_move <| x (r_build ⟨rfl, rfl, rfl, trivial⟩) <| xl rfl <| o_lits (us := [edCells ((i : Int), v, ((syAdd s4 u).tup.idxOf u : Int))]) rfl rfl (by decide) (by exact (by decide : 1 * 3 ≤ 1000000)) ⟨rfl, rfl, trivial⟩ fun b108 w31 hs31 hb108 hB108 => ?_
    have hI11 := hI10.ext hs31
    refine xl rfl <| o_app (news := edCells ((i : Int), v, ((syAdd s4 u).tup.idxOf u : Int))) (L := []) hI11.e rfl rfl rfl (hB108.at (by simp)) (fun y hy => by simp only [edCells, List.mem_cons, List.not_mem_nil, or_false] at hy; rcases hy with rfl | rfl | rfl <;> rfl) (by omega) hI11.st.size fun v32 w32 ho32 hs32 hn32 => ?_
    have hk32 : EdsO 93 wS.heap.size w32 v32 ((syAdd s4 u).ed ++ [((i : Int), v, ((syAdd s4 u).tup.idxOf u : Int))]) := EdsO.snoc ho32
    refine x (r_fieldB rfl) <| xl rfl <| o_store (hI11.A.step hs32 (own_notin hI11.e (by omega))) rfl rfl (by simp) (EdsO.eds (L := []) hk32 (by simp; omega) (by simp)).one fun w33 hs33 hB33 => xe ?_
    have hI12 := hI11.setE hSN hs32 hk32 hn32 hs33 hB33
    refine W_region (by rfl) ?_
    refine x (r_add rfl rfl ⟨by omega, by omega⟩) <| x r_move <| xe ?_
    refine ⟨(j + 1, _, m5, qs5, vt5, v32), by simp only []; omega, ⟨rfl, rfl, trivial⟩, hI12, hsk5, hkn5, hltj, ?_, ?_, ⟨hlt5, ht5⟩, hrun4⟩
    · simp only []; rw [syAdd_mk]; exact hmk4
    · simp only [List.length_append, List.length_singleton]; omega
end Go.Proofs.YtfhgnlkdcdlblaaDoor
