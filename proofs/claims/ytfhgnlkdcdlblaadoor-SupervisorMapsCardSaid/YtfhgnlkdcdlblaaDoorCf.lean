/- Contracts: automaton.canonical, Canonical. -/
import Derived.Test.YtfhgnlkdcdlblaaDoorCe
import Derived.Test.YtfhgnlkdcdlblaaDoorSq
namespace Go.Proofs.YtfhgnlkdcdlblaaDoor
open Go.Lg

/-- What the search of canonical holds in memory. -/
structure CanI (b3 b22 : Nat) (r3 : Value) (wS : World) (c : Cs) (vo vk ve : Value) (w : World) : Prop where
  st : Step [b3, b22] wS w
  B3 : Blk w.heap b3 35 [r3, .int .i64 0, vk, ve]
  B22 : Blk w.heap b22 3 (c.num.map (Value.int .i64))
  o : IntsO 3 wS.heap.size w vo c.ord
  k : IntsO 3 wS.heap.size w vk c.mk'
  e : EdsO 93 wS.heap.size w ve c.ed
  d1 : Dj vo vk
  d2 : Dj vo ve
  d3 : Dj vk ve
theorem CanI.ext {b3 b22 : Nat} {r3 : Value} {wS : World} {c : Cs} {vo vk ve : Value} {w w' : World} (h : CanI b3 b22 r3 wS c vo vk ve w) (hs : Step [] w w') : CanI b3 b22 r3 wS c vo vk ve w' :=
  ⟨h.st.trans hs, h.B3.ext hs, h.B22.ext hs, own_ext h.o hs, own_ext h.k hs, own_ext h.e hs, h.d1, h.d2, h.d3⟩
section
variable {b3 b22 : Nat} {r3 : Value} {wS : World} {c : Cs} {vo vk ve : Value} {w w' w'' : World}
theorem CanI.setK (h : CanI b3 b22 r3 wS c vo vk ve w) (l3 : b3 < wS.heap.size) (l22 : b22 < wS.heap.size) (ne : b3 ≠ b22) {vk' : Value} {m : List Int} (hs : Step (ob vk) w w') (hk' : IntsO 3 wS.heap.size w' vk' m)
    (hn : ∀ b ∈ ob vk', b ∈ ob vk ∨ w.heap.size ≤ b) (hs2 : Step [b3] w' w'') (hB : Blk w''.heap b3 35 [r3, .int .i64 0, vk', ve]) : CanI b3 b22 r3 wS ⟨c.ord, c.num, m, c.ed⟩ vo vk' ve w'' := by
  have hge := own_ge h.k
  refine ⟨(h.st.then hs (fun b hb => .inr (hge b hb).1)).then hs2 (fun b hb => .inl (by simp at hb; simp [hb])), hB, (h.B22.step hs (own_notin h.k l22)).step hs2 (by simp; omega),
    own_step (own_step h.o hs h.d1) hs2 (fun b hb => by have := (own_ge h.o b hb).1; simp; omega), own_step hk' hs2 (fun b hb => by have := (own_ge hk' b hb).1; simp; omega),
    own_step (own_step h.e hs h.d3.symm) hs2 (fun b hb => by have := (own_ge h.e b hb).1; simp; omega), h.d1.grow hn (own_lt h.o), h.d2, (h.d3.symm.grow hn (own_lt h.e)).symm⟩
theorem CanI.setE (h : CanI b3 b22 r3 wS c vo vk ve w) (l3 : b3 < wS.heap.size) (l22 : b22 < wS.heap.size) (ne : b3 ≠ b22) {ve' : Value} {m : List Ed} (hs : Step (ob ve) w w') (hk' : EdsO 93 wS.heap.size w' ve' m)
    (hn : ∀ b ∈ ob ve', b ∈ ob ve ∨ w.heap.size ≤ b) (hs2 : Step [b3] w' w'') (hB : Blk w''.heap b3 35 [r3, .int .i64 0, vk, ve']) : CanI b3 b22 r3 wS ⟨c.ord, c.num, c.mk', m⟩ vo vk ve' w'' := by
  have hge := own_ge h.e
  refine ⟨(h.st.then hs (fun b hb => .inr (hge b hb).1)).then hs2 (fun b hb => .inl (by simp at hb; simp [hb])), hB, (h.B22.step hs (own_notin h.e l22)).step hs2 (by simp; omega),
    own_step (own_step h.o hs h.d2) hs2 (fun b hb => by have := (own_ge h.o b hb).1; simp; omega), own_step (own_step h.k hs h.d3) hs2 (fun b hb => by have := (own_ge h.k b hb).1; simp; omega),
    own_step hk' hs2 (fun b hb => by have := (own_ge hk' b hb).1; simp; omega), h.d1, h.d2.grow hn (own_lt h.o), h.d3.grow hn (own_lt h.k)⟩
/-- number is written, then order grows. -/
theorem CanI.setN (h : CanI b3 b22 r3 wS c vo vk ve w) (l22 : b22 < wS.heap.size) (ne : b3 ≠ b22) {m : List Int} (hs2 : Step [b22] w w') (hB : Blk w'.heap b22 3 (m.map (Value.int .i64))) : CanI b3 b22 r3 wS ⟨c.ord, m, c.mk', c.ed⟩ vo vk ve w' :=
  ⟨h.st.then hs2 (fun b hb => .inl (by simp at hb; simp [hb])), h.B3.step hs2 (by simp; omega), hB, own_step h.o hs2 (fun b hb => by have := (own_ge h.o b hb).1; simp; omega),
    own_step h.k hs2 (fun b hb => by have := (own_ge h.k b hb).1; simp; omega), own_step h.e hs2 (fun b hb => by have := (own_ge h.e b hb).1; simp; omega), h.d1, h.d2, h.d3⟩
theorem CanI.setO (h : CanI b3 b22 r3 wS c vo vk ve w) (l3 : b3 < wS.heap.size) (l22 : b22 < wS.heap.size) {vo' : Value} {m : List Int} (hs : Step (ob vo) w w') (hk' : IntsO 3 wS.heap.size w' vo' m)
    (hn : ∀ b ∈ ob vo', b ∈ ob vo ∨ w.heap.size ≤ b) : CanI b3 b22 r3 wS ⟨m, c.num, c.mk', c.ed⟩ vo' vk ve w' :=
  ⟨h.st.then hs (fun b hb => .inr (own_ge h.o b hb).1), h.B3.step hs (own_notin h.o l3), h.B22.step hs (own_notin h.o l22), hk', own_step h.k hs h.d1.symm, own_step h.e hs h.d2.symm,
    (h.d1.symm.grow hn (own_lt h.k)).symm, (h.d2.symm.grow hn (own_lt h.e)).symm, h.d3⟩
end

/-- The target of an edge gets its number. -/
def numC (c : Cs) (e : Ed) : Cs := if getI c.num e.2.2 < 0 then ⟨c.ord ++ [e.2.2], c.num.set e.2.2.toNat c.ord.length, c.mk', c.ed⟩ else c
theorem numC_nl (c : Cs) (e : Ed) : (numC c e).num.length = c.num.length := by unfold numC; split <;> simp
theorem stepE_numC {i : Nat} {c : Cs} {e : Ed} (h : e.2.2.toNat < c.num.length) : stepE i c e = ⟨(numC c e).ord, (numC c e).num, (numC c e).mk', (numC c e).ed ++ [((i : Int), e.2.1, getI (numC c e).num e.2.2)]⟩ := by
  unfold stepE numC
  split
  · simp [getI, List.getD, h]
  · rfl

set_option maxHeartbeats 1000000 in
theorem canonical_ok {L : List Nat} {w : World} {va vm ve : Value} {a : Aut} (h : AutA L w.heap va vm ve a) (hok : Okay a) :
    Ret Tryd.prog 74 [.agg #[va, .int .i64 a.st, vm, ve]] w fun r w' => Step [] w w' ∧ AutF w.heap.size w'.heap r (canA a) := by
  have hst0 := hok.st0
  have hst1 := hok.st1
  refine Ret.of_W Tryd.func74 rfl Tryd.ntmps74 Tryd.results74 (by simp) ?_
  refine W_seq <| W_region (by rfl) ?_
  refine xl rfl <| o_box (us := [va, .int .i64 a.st, vm, ve]) rfl fun b1 w1 hs1 hb1 hB1 => xl rfl <| o_alloc (us := [.slice none 0 0, .int .i64 0, .slice none 0 0, .slice none 0 0]) rfl fun b2 w2 hs2 hb2 hB2 => xe ?_
  have hz1 := hs1.size
  have hz2 := hs2.size
  have hl1 := hB1.lt
  have hl2 := hB2.lt
  refine W_seq <| W_region (by rfl) ?_
  refine x (r_fieldB rfl) <| x (r_loadB (hB1.ext hs2) rfl rfl) <| xl rfl <| xf <| (clone_ok ((h.al.ext hs1).ext hs2)).mono ?_
  rintro r3 w3 ⟨hs3, hr3⟩
  have hz3 := hs3.size
  refine x (r_build ⟨(IntsO.ints (L := []) hr3 h.al.le (by simp)).cells, trivial⟩) <| xl rfl <| o_alloc (us := [.slice none 0 0, .int .i64 0, .slice none 0 0, .slice none 0 0]) rfl fun b3 w4 hs4 hb3 hB3 =>
    xl rfl <| o_stores (us := [r3, .int .i64 0, .slice none 0 0, .slice none 0 0]) hB3 rfl rfl rfl rfl ⟨(IntsO.ints (L := []) hr3 h.al.le (by simp)).one, rfl, rfl, rfl, trivial⟩ fun w5 hs5 hB3 => xe ?_
  have hS5 : Step [] w3 w5 := hs4.then1 hs5 hb3
  have hz5 := hS5.size
  have hl3 := hB3.lt
  have hW5 : Step [] w w5 := ((hs1.trans hs2).trans hs3).trans hS5
  refine W_seq <| W_seq <| W_region (by rfl) ?_
  refine x (r_fieldB rfl) <| x (r_loadB (((hB1.ext hs2).ext hs3).ext hS5) rfl rfl) <| x (r_eql rfl rfl) <| xe ?_
  refine W_if rfl (fun h18 => ?_) (fun h18 => ?_)
  · refine W_seq <| W_region (by rfl) ?_
    refine x (r_loadsB hB3 rfl rfl) <| xl rfl <| o_stores (us := [r3, .int .i64 0, .slice none 0 0, .slice none 0 0]) ((hB2.ext hs3).ext hS5) rfl rfl rfl rfl ⟨(IntsO.ints (L := []) hr3 h.al.le (by simp)).one, rfl, rfl, rfl, trivial⟩ fun w6 hs6 hB2 => xe ?_
    refine W_ret ⟨[.agg #[r3, .int .i64 0, .slice none 0 0, .slice none 0 0]], ⟨⟨_, rfl, run_loadVar_ag rfl (hB2.at (L := []) (by simp)).cells⟩, trivial⟩, hW5.then1 hs6 (by omega), ?_⟩
    have hr6 := own_step (own_ext hr3 hS5) hs6 (fun b hb => by have := (own_ge hr3 b hb).1; simp; omega)
    unfold canA
    rw [if_pos h18]
    exact ⟨r3, _, _, rfl, fun L' hL' => ⟨IntsO.ints hr6 h.al.le (fun b hb => by have := hL' b hb; omega), Arr.nil _ _ _, Arr.nil _ _ _⟩⟩
  have hpos : 0 < a.st := by omega
  obtain ⟨n, hn⟩ : ∃ n : Nat, a.st = n := ⟨a.st.toNat, by omega⟩
  have hnn : a.st.toNat = n := by omega
  refine W_skip ?_
  refine W_seq <| W_region (by rfl) ?_
  refine x (r_fieldB rfl) <| x (r_loadB (((hB1.ext hs2).ext hs3).ext hS5) rfl rfl) <| xl rfl <| o_make (n := n) (congrArg (Value.int .i64) hn) (congrArg (Value.int .i64) hn) (by omega) fun b22 w7 hs7 hb22 hB22 => x r_assign <| xe ?_
  have hz7 := hs7.size
  have hl22 := hB22.lt
  have hW7 := hW5.trans hs7
  rw [show (List.replicate n (Value.int .i64 0).cells.toList).flatten = ((List.replicate n 0).map (Value.int .i64)) by rw [show (Value.int .i64 0).cells.toList = [Value.int .i64 0] from rfl, rep_flat, List.map_replicate]] at hB22
  have hw7A : Step [] w3 w7 := hS5.trans hs7
  -- number[i] = -1
  refine W_seq <| W_seq <| W_region (by rfl) ?_
  refine x r_move <| x (r_len rfl) <| x r_move <| xe ?_
  refine W_block <| W_loop (α := Nat) [(5, 5), (25, 31)] (fun k => [(25, .int .i64 k)]) (fun k w' => Step [b22] w7 w' ∧ k ≤ n ∧ Blk w'.heap b22 3 ((List.replicate k (-1) ++ List.replicate (n - k) 0).map (Value.int .i64))) (fun k => n - k) (by rfl) 0 ⟨rfl, trivial⟩
    ⟨Step.refl _ _, Nat.zero_le _, by simpa using hB22⟩ ?_
  rintro k g w8 ⟨hs8, hk, hB8⟩
  refine W_seq <| W_region (by rfl) ?_
  refine x (r_lss rfl rfl) <| xe ?_
  refine W_seq <| W_ifn rfl (fun h26 => ?_) (fun h26 => ?_)
  rotate_left
  · have hlt : k < n := by omega
    refine W_skip ?_
    refine W_seq <| W_block <| W_seq <| W_region (by rfl) ?_
    refine x r_move <| x r_assign <| xe ?_
    refine W_region (by rfl) ?_
    refine x r_move <| x r_move <| x (r_indexB rfl rfl hlt) <| xl rfl <| o_storeI hB8 rfl rfl (by simp; omega) fun w9 hs9 hB9 => xe ?_
    refine W_region (by rfl) ?_
    refine x (r_add rfl rfl ⟨by omega, by omega⟩) <| x r_move <| xe ?_
    refine ⟨k + 1, by omega, ⟨rfl, trivial⟩, hs8.trans' hs9, by omega, ?_⟩
    have e : (List.replicate k (-1 : Int) ++ List.replicate (n - k) 0).set k (-1) = List.replicate (k + 1) (-1) ++ List.replicate (n - (k + 1)) 0 := by
      rw [List.set_append_right _ _ (by simp)]
      obtain ⟨m, hm⟩ : ∃ m, n - k = m + 1 := ⟨n - k - 1, by omega⟩
      rw [hm, show n - (k + 1) = m by omega, List.replicate_succ, List.replicate_succ' (n := k)]
      simp
    rw [e] at hB9; exact hB9
  have hkn : n = k := by omega
  subst hkn
  simp only [Nat.sub_self, List.replicate_zero, List.append_nil] at hB8
  refine W_exit ?_
  refine W_seq <| W_region (by rfl) ?_
  refine x r_move <| x (r_indexB (i := 0) rfl rfl (by omega)) <| xl rfl <| o_storeI (i := 0) hB8 rfl rfl (by simp; omega) fun wS hs9 hBS => xe ?_
  have hzS : w8.heap.size ≤ wS.heap.size := hs9.size
  have hz8 := hs8.size
  have hSS : Step [b22] w7 wS := hs8.trans' hs9
  have hWS : Step [] w wS := hW7.then1 hSS (by omega)
  -- what is kept from here on: all but b3 and b22
  have hA : AutA [b3, b22] wS.heap va vm ve a := (h.up (fun b hb => .inr (by simp at hb; omega))).ext hWS
  have hB1S : Blk wS.heap b1 35 [va, .int .i64 a.st, vm, ve] := ((((hB1.ext hs2).ext hs3).ext hS5).ext hs7).step hSS (by simp; omega)
  have hB2S : Blk wS.heap b2 35 [.slice none 0 0, .int .i64 0, .slice none 0 0, .slice none 0 0] := (((hB2.ext hs3).ext hS5).ext hs7).step hSS (by simp; omega)
  have hB3S : Blk wS.heap b3 35 [r3, .int .i64 0, .slice none 0 0, .slice none 0 0] := (hB3.ext hs7).step hSS (by simp; omega)
  have hr3S : IntsO 3 w2.heap.size wS r3 a.al := own_step (own_ext hr3 hw7A) hSS (fun b hb => by have := own_lt hr3 b hb; simp; omega)
  have hr3lt : ∀ b ∈ ob r3, b < w3.heap.size := own_lt hr3
  have hlb3 : b3 < wS.heap.size := by omega
  have hlb22 : b22 < wS.heap.size := by omega
  have hne : b3 ≠ b22 := by omega
  refine W_seq <| W_region (by rfl) ?_
  refine xl rfl <| o_lits (us := [[.int .i64 0]]) rfl rfl (by decide) (by simp) ⟨rfl, rfl, trivial⟩ fun b34 w10 hs10 hb34 hB34 => x r_assign <| xe ?_
  have ho10 : IntsO 3 wS.heap.size w10 (.slice (some ⟨b34, 0, none⟩) 1 1) [0] := hB34.own (n := 1) (sz := 1) rfl (by omega) (by omega)
  refine W_seq <| W_seq <| W_region (by rfl) ?_
  refine x r_assign <| xe ?_
  -- the search
  have hedle := hok.ed_le
  have hbound : ∀ e ∈ a.ed, 0 ≤ e.1 ∧ e.1 ≤ 1099511627776 := fun e he => by have := hok.ed e he; omega
  refine W_block <| W_loop (α := Nat × Cs × Value × Value × Value) [(6, 9), (11, 11), (35, 100)] (fun z => [(6, z.2.2.1), (7, .int .i64 z.1)])
    (fun z w' => CanI b3 b22 r3 wS z.2.1 z.2.2.1 z.2.2.2.1 z.2.2.2.2 w' ∧ z.1 ≤ z.2.1.ord.length ∧ CsOk a.st z.2.1 ∧ z.2.1.mk'.length ≤ z.1 ∧ z.2.1.ed.length ≤ z.1 * 131072 ∧ canL a (a.st.toNat - z.1) z.1 z.2.1 = canL a a.st.toNat 0 (can0 a))
    (fun z => a.st.toNat - z.1) (by rfl) (0, can0 a, .slice (some ⟨b34, 0, none⟩) 1 1, .slice none 0 0, .slice none 0 0) ⟨rfl, rfl, trivial⟩
    ⟨⟨hs10.any, hB3S.ext hs10, by show Blk _ _ _ (List.map _ ((List.replicate a.st.toNat (-1)).set 0 0)); rw [hnn]; exact hBS.ext hs10, ho10, own_nil _ _ _ _, own_nil _ _ _ _, Dj.nil' _, Dj.nil' _, Dj.nil' _⟩, Nat.zero_le _, can0_ok hpos, Nat.zero_le _, Nat.zero_le _, rfl⟩ ?_
  rintro ⟨i, c, vo, vk, ve'⟩ g2 w11 ⟨hI, hi, hc, hmk, hed, hcan⟩
  simp only [] at hI hi hc hmk hed hcan
  have hcle := hc.le
  have hoA := IntsO.ints (L := []) hI.o (by omega) (by simp)
  have hA11 := hA.st hI.st
  have hB1' := hB1S.step hI.st (by simp; omega)
  refine W_seq <| W_seq <| W_region (by rfl) ?_
  refine x r_move <| x r_move <| x (r_lenA hoA rfl) <| x (r_lss rfl rfl) <| xe ?_
  refine W_ifn rfl (fun h38 => ?_) (fun h38 => ?_)
  · have hend : c = canL a a.st.toNat 0 (can0 a) := by rw [← hcan, canL_done (by omega)]
    refine W_exit ?_
    refine W_seq <| W_region (by rfl) ?_
    refine x r_move <| x (r_lenA hoA rfl) <| x (r_fieldB rfl) <| xl rfl <| o_store hI.B3 rfl rfl (by simp) rfl fun w12 hs12 hB12 => xe ?_
    refine W_seq <| W_region (by rfl) ?_
    have hkA := IntsO.ints (L := []) hI.k (by omega) (by simp)
    have heA := EdsO.eds (L := []) hI.e (by have := hc.el; omega) (by simp)
    have hr3A := IntsO.ints (L := []) hr3 h.al.le (by simp)
    refine x (r_loadsB hB12 rfl rfl) <| xl rfl <| o_stores (us := [r3, .int .i64 c.ord.length, vk, ve']) (((hB2S.step hI.st (by simp; omega))).step hs12 (by simp; omega)) rfl rfl rfl rfl ⟨hr3A.one, rfl, hkA.one, heA.one, trivial⟩ fun w13 hs13 hB13 => xe ?_
    have hE1 : Step [b3, b22] wS w12 := hI.st.then hs12 (fun b hb => .inl (by simp at hb; simp [hb]))
    have hfin : Step [] w w13 := (hWS.then hE1 (fun b hb => .inr (by simp at hb; omega))).then1 hs13 (by omega)
    refine W_ret ⟨[.agg #[r3, .int .i64 c.ord.length, vk, ve']], ⟨⟨_, rfl, run_loadVar_ag rfl (hB13.at (L := []) (by simp)).cells⟩, trivial⟩, hfin, ?_⟩
    unfold canA
    rw [if_neg h18]
    simp only []
    rw [← hend]
    have hNge : w.heap.size ≤ wS.heap.size := hWS.size
    have k1 := own_step (own_step hI.k hs12 (fun b hb => by have := (own_ge hI.k b hb).1; simp; omega)) hs13 (fun b hb => by have := (own_ge hI.k b hb).1; simp; omega)
    have k2 := own_step (own_step hI.e hs12 (fun b hb => by have := (own_ge hI.e b hb).1; simp; omega)) hs13 (fun b hb => by have := (own_ge hI.e b hb).1; simp; omega)
    have k3 := own_step (own_step hr3S hE1 (fun b hb => by have := hr3lt b hb; simp; omega)) hs13 (fun b hb => by have := (own_ge hr3 b hb).1; simp; omega)
    exact ⟨r3, vk, ve', rfl, fun L' hL' => ⟨IntsO.ints k3 h.al.le (fun b hb => by have := hL' b hb; omega), IntsO.ints k1 (by show c.mk'.length ≤ _; omega) (fun b hb => by have := hL' b hb; omega), EdsO.eds k2 (by show c.ed.length ≤ _; have := hc.el; omega) (fun b hb => by have := hL' b hb; omega)⟩⟩
  have hlt : i < c.ord.length := by omega
  refine W_skip ?_
  -- marked
  refine W_seq <| W_block <| W_cut (α := Value) [(8, 9), (41, 57)] (fun z => []) (fun z w' => CanI b3 b22 r3 wS (markC a i c) vo z ve' w') (by rfl) ?_ ?_
  · refine W_seq <| W_draw (Step [] w11) [(0, true), (1, true), (2, true), (3, true), (4, true), (5, true), (6, false), (7, true), (8, true), (9, true), (10, true), (11, true)] Tryd.mixed (by rfl) (by kernel_rfl) (Step.drew _ _) ?_
    refine p (fun _ => r_fieldB rfl) <| pq (fun _ hc => r_loadB (hB1'.ext hc) rfl rfl) <| p (fun _ => r_move) <| p (fun _ => r_move) <| pii rfl hoA rfl rfl hlt fun a46 h46 =>
      pq (fun _ hc => r_loadA (h46.ext hc) rfl) <| pk <| xf <| (bsearch_ok (hA11.mr.ext (Step.drew _ _)) hok.mri _).mono ?_
    rintro r14 w14 ⟨rfl, j14, rfl⟩
    refine ⟨Step.drew _ _, ?_⟩
    refine p (fun _ => r_move) <| p (fun _ => r_extract rfl rfl) <| p (fun _ => r_extract rfl rfl) <| p (fun _ => r_assign) <| p (fun _ => r_assign) <| pe ?_
    have hI' := hI.ext (Step.drew [] w11)
    refine W_seq <| W_region (by rfl) ?_
    refine x r_move <| xe ?_
    have hgi : getI c.ord i = c.ord[i] := getI_eq (by simpa using hlt)
    refine W_ifn rfl (fun h51 => ?_) (fun h51 => ?_)
    · refine W_skip ?_
      refine ⟨vk, trivial, ?_⟩
      unfold markC; rw [hgi, if_neg h51]; exact hI'
    refine W_region (by rfl) ?_
    refine x (r_fieldB rfl) <| x (r_loadB hI'.B3 rfl rfl) <| x r_move <| xl rfl <| o_lits (us := [[.int .i64 i]]) rfl rfl (by decide) (by simp) ⟨rfl, rfl, trivial⟩ fun b55 w15 hs15 hb55 hB55 => ?_
    have hI15 := hI'.ext hs15
    refine xl rfl <| o_app (news := [.int .i64 i]) (L := []) hI15.k rfl rfl rfl (hB55.at (by simp)) (by simp [Value.oneCell']) (by omega) hI15.st.size fun v16 w16 ho16 hs16 hn16 => ?_
    have hk16 : IntsO 3 wS.heap.size w16 v16 (c.mk' ++ [(i : Int)]) := IntsO.snoc ho16
    refine x (r_fieldB rfl) <| xl rfl <| o_store (hI15.B3.step hs16 (own_notin hI15.k hlb3)) rfl rfl (by simp) (IntsO.ints (L := []) hk16 (by simp; omega) (by simp)).one fun w17 hs17 hB17 => xe ?_
    refine ⟨v16, trivial, ?_⟩
    unfold markC; rw [hgi, if_pos h51]
    exact hI15.setK hlb3 hlb22 hne hs16 hk16 hn16 hs17 hB17
  rintro vk2 g3 w18 hI2
  have hc2 : CsOk a.st (markC a i c) := markC_ok hc
  have hord2 : (markC a i c).ord = c.ord := by unfold markC; split <;> rfl
  have hed2 : (markC a i c).ed = c.ed := by unfold markC; split <;> rfl
  have hmk2 : (markC a i c).mk'.length ≤ i + 1 := by
    unfold markC; split
    · simp only [List.length_append, List.length_singleton]; omega
    · omega
  have hoA2 : Ints [] w18.heap vo (markC a i c).ord := IntsO.ints (L := []) hI2.o (by rw [hord2]; omega) (by simp)
  rw [hord2] at hoA2
  have hW18 : Step [] w w18 := hWS.then hI2.st (fun b hb => .inr (by simp at hb; omega))
  have hNw := hWS.size
  have hA18 : AutA (b3 :: b22 :: (ob vo ++ ob ve')) w18.heap va vm ve a := (h.up (fun b hb => .inr (by
    simp only [List.mem_cons, List.mem_append] at hb
    rcases hb with rfl | rfl | hb | hb
    · omega
    · omega
    · have := (own_ge hI2.o b hb).1; omega
    · have := (own_ge hI2.e b hb).1; omega))).ext hW18
  have hB1'' := hB1S.step hI2.st (by simp; omega)
  have hs := hc.ord c.ord[i] (List.getElem_mem hlt)
  refine W_seq <| W_draw (Step [] w18) [(0, true), (1, true), (2, true), (3, true), (4, true), (7, true), (5, false), (6, true)] Tryd.mixed (by rfl) (by kernel_rfl) (Step.drew _ _) ?_
  refine pq (fun _ hc => r_loadsB (hB1''.ext hc) rfl rfl) <| p (fun _ => r_move) <| p (fun _ => r_move) <| pii rfl hoA2 rfl rfl hlt fun a61 h61 =>
    pq (fun _ hc => r_loadA (h61.ext hc) rfl) <| p (fun _ => r_move) <| pk <| xf <| (out_ok (hA18.ed.ext (Step.drew _ _)) hok.eds hbound c.ord[i] hs.1 (by omega)).mono ?_
  rintro r19 w19 ⟨hs19, hr19⟩
  have hs19' : Step [] w18 w19 := (Step.drew [] w18).trans hs19
  refine ⟨hs19', ?_⟩
  refine p (fun _ => r_lenA hr19 rfl) <| pe ?_
  have hI3 := hI2.ext hs19'
  have hgi : getI c.ord i = c.ord[i] := getI_eq (by simpa using hlt)
  have hol := outE_len a.ed c.ord[i]
  have hrow : rowC a i c = (outE a.ed c.ord[i]).foldl (stepE i) (markC a i c) := by unfold rowC; rw [hgi]
  generalize hos : outE a.ed c.ord[i] = os at *
  have hosm : ∀ e ∈ os, 0 ≤ e.2.2 ∧ e.2.2 < a.st := fun e he => by rw [← hos] at he; have := hok.ed e (outE_mem he).1; omega
  -- the edges of the state
  refine W_block <| W_loop (α := Nat × Cs × Value × Value) [(6, 6), (11, 11), (65, 100)] (fun z => [(6, z.2.2.1), (65, .int .i64 z.1)])
    (fun z w' => CanI b3 b22 r3 wS z.2.1 z.2.2.1 vk2 z.2.2.2 w' ∧ Step (b3 :: b22 :: (ob vo ++ ob ve')) w19 w' ∧ (∀ b ∈ ob z.2.2.1, b ∈ ob vo ∨ w19.heap.size ≤ b) ∧ (∀ b ∈ ob z.2.2.2, b ∈ ob ve' ∨ w19.heap.size ≤ b) ∧ z.1 ≤ os.length ∧ CsOk a.st z.2.1 ∧ z.2.1.mk' = (markC a i c).mk' ∧ z.2.1.ed.length = c.ed.length + z.1 ∧ c.ord.length ≤ z.2.1.ord.length ∧ (os.drop z.1).foldl (stepE i) z.2.1 = rowC a i c)
    (fun z => os.length - z.1) (by rfl) (0, markC a i c, vo, ve') ⟨rfl, rfl, trivial⟩
    ⟨hI3, Step.refl _ _, fun _ hb => .inl hb, fun _ hb => .inl hb, Nat.zero_le _, hc2, rfl, by simp [hed2], by simp [hord2], by rw [hrow]; rfl⟩ ?_
  rintro ⟨k, d, vo2, ve2⟩ g4 w20 ⟨hI4, hS4, hv4, hw4, hk4, hc4, hm4, he4, ho4, hf4⟩
  simp only [] at hI4 hS4 hv4 hw4 hk4 hc4 hm4 he4 ho4 hf4
  refine W_seq <| W_region (by rfl) ?_
  refine x (r_lss rfl rfl) <| xe ?_
  refine W_seq <| W_ifn rfl (fun h66 => ?_) (fun h66 => ?_)
  · rw [List.drop_of_length_le (by omega), List.foldl_nil] at hf4
    subst hf4
    refine W_exit ?_
    refine W_region (by rfl) ?_
    refine x r_move <| x (r_add rfl rfl ⟨by omega, by omega⟩) <| x r_assign <| xe ?_
    have hcle4 := hc4.le
    refine ⟨(i + 1, rowC a i c, vo2, vk2, ve2), by simp only []; omega, ⟨rfl, rfl, trivial⟩, hI4, by simp only []; omega, hc4, by simp only []; rw [hm4]; exact hmk2, by simp only []; omega, ?_⟩
    simp only []
    rw [← hcan]
    obtain ⟨m, hm⟩ : ∃ m, a.st.toNat - i = m + 1 := ⟨a.st.toNat - i - 1, by omega⟩
    rw [hm, canL, if_pos hlt, show a.st.toNat - (i + 1) = m by omega]
  have hlt4 : k < os.length := by omega
  have hdr := drop_cons hlt4
  rw [hdr, List.foldl_cons] at hf4
  have hto := hosm os[k] (List.getElem_mem hlt4)
  have hr20 := hr19.st hS4
  have hcle4 := hc4.le
  have hz19 := hs19'.size
  have hzS4 := hS4.size
  have hz18 := hI2.st.size
  have hI4z := hI4.st.size
  have hoA4 := IntsO.ints (L := []) hI4.o (by omega) (by simp)
  obtain ⟨q, hq⟩ : ∃ q : Nat, os[k].2.2 = q := ⟨os[k].2.2.toNat, by omega⟩
  have hqn : os[k].2.2.toNat = q := by omega
  have hqk : q < n := by omega
  have hqd : q < d.num.length := by rw [hc4.nl]; omega
  have hgq : getI d.num os[k].2.2 = d.num[q] := by rw [getI_eq (by omega)]; simp only [hqn]
  have hle4 := own_lt hI4.e
  have hlo4 := own_lt hI4.o
  refine W_skip ?_
  refine W_seq <| W_block <| W_seq <| W_region (by rfl) ?_
  refine xie hr20 rfl rfl hlt4 fun a67 h67 => x (r_loadsA h67 rfl rfl) <| xl rfl <| o_alloc (us := [.int .i64 0, .int .i64 0, .int .i64 0]) rfl fun b11 w21 hs21 hb11 hB11 => xl rfl <| o_stores (us := edCells os[k]) hB11 rfl rfl rfl rfl ⟨rfl, rfl, rfl, trivial⟩ fun w22 hs22 hB11 => xe ?_
  have hS22 : Step [] w20 w22 := hs21.then1 hs22 hb11
  have hI5 := hI4.ext hS22
  have hz22 := hS22.size
  have hl11 := hB11.lt
  have hS5 := hS4.trans hS22
  refine W_cut (α := Value) [(6, 6), (69, 85)] (fun z => [(6, z)]) (fun z w' => CanI b3 b22 r3 wS (numC d os[k]) z vk2 ve2 w' ∧ Step (b3 :: b22 :: (ob vo ++ ob ve')) w19 w' ∧ (∀ b ∈ ob z, b ∈ ob vo ∨ w19.heap.size ≤ b) ∧ Blk w'.heap b11 93 (edCells os[k])) (by rfl) ?_ ?_
  · refine W_seq <| W_region (by rfl) ?_
    refine x r_move <| x (r_fieldB rfl) <| x (r_loadB hB11 rfl rfl) <| x (r_indexB rfl (congrArg (Value.int .i64) hq) hqk) <| x (r_loadI hI5.B22 rfl hqd) <| x (r_lss rfl rfl) <| xe ?_
    refine W_ifn rfl (fun h74 => ?_) (fun h74 => ?_)
    · refine W_skip ?_
      refine ⟨vo2, ⟨rfl, trivial⟩, ?_, hS5, hv4, hB11⟩
      unfold numC; rw [hgq, if_neg h74]; exact hI5
    refine W_seq <| W_region (by rfl) ?_
    refine x r_move <| x (r_fieldB rfl) <| x (r_loadB hB11 rfl rfl) <| x r_move <| x (r_lenA hoA4 rfl) <| x (r_indexB rfl (congrArg (Value.int .i64) hq) hqk) <| xl rfl <| o_storeI hI5.B22 rfl rfl hqd fun w23 hs23 hB23 => xe ?_
    have hI6 := hI5.setN hlb22 hne hs23 hB23
    have hB11' := hB11.step hs23 (by simp; omega)
    refine W_region (by rfl) ?_
    refine x r_move <| x (r_fieldB rfl) <| x (r_loadB hB11' rfl rfl) <| xl rfl <| o_lits (us := [[.int .i64 os[k].2.2]]) rfl rfl (by decide) (by simp) ⟨rfl, rfl, trivial⟩ fun b84 w24 hs24 hb84 hB84 => ?_
    have hI7 := hI6.ext hs24
    refine xl rfl <| o_app (news := [.int .i64 os[k].2.2]) (L := []) hI7.o rfl rfl rfl (hB84.at (by simp)) (by simp [Value.oneCell']) (by show d.ord.length + 1 ≤ _; omega) hI7.st.size fun v25 w25 ho25 hs25 hn25 => x r_assign <| xe ?_
    have hk25 : IntsO 3 wS.heap.size w25 v25 (d.ord ++ [os[k].2.2]) := IntsO.snoc ho25
    have hz23 := hs23.size
    have hz24 := hs24.size
    refine ⟨v25, ⟨rfl, trivial⟩, ?_, ?_, ?_, (hB11'.ext hs24).step hs25 (fun hb => by have := hlo4 _ hb; omega)⟩
    · unfold numC; rw [hgq, if_pos h74, hqn]
      exact hI7.setO hlb3 hlb22 hs25 hk25 hn25
    · refine ((hS5.then hs23 (fun b hb => .inl ?_)).trans hs24).then hs25 (fun b hb => ?_)
      · simp at hb; simp [hb]
      · rcases hv4 b hb with h1 | h1
        · exact .inl (by simp [h1])
        · exact .inr h1
    · intro b hb
      rcases hn25 b hb with h1 | h1
      · exact hv4 b h1
      · exact .inr (by omega)
  rintro vo3 g5 w26 ⟨hI8, hS8, hv8, hB8'⟩
  have hd2 : stepE i d os[k] = ⟨(numC d os[k]).ord, (numC d os[k]).num, (numC d os[k]).mk', (numC d os[k]).ed ++ [((i : Int), os[k].2.1, getI (numC d os[k]).num os[k].2.2)]⟩ := stepE_numC (by omega)
  have hnl : q < (numC d os[k]).num.length := by rw [numC_nl]; exact hqd
  have hg2 : getI (numC d os[k]).num os[k].2.2 = (numC d os[k]).num[q] := by rw [getI_eq (by omega)]; simp only [hqn]
  have hne3 := own_notin hI8.e hlb3
  have hne22 := own_notin hI8.e hlb22
  have hne11 : b11 ∉ ob ve2 := fun hb => by have := hle4 _ hb; omega
  have hedn : (numC d os[k]).ed = d.ed := by unfold numC; split <;> rfl
  have hc5 : CsOk a.st (stepE i d os[k]) := stepE_ok hc4 hto.1 hto.2 (by rw [he4]; omega)
  refine W_draw (Step (ob ve2) w26) [(0, true), (1, true), (2, true), (3, true), (4, true), (5, true), (6, true), (7, true), (8, true), (9, true), (10, true), (11, false), (12, false), (13, true), (14, false)] Tryd.mixed (by rfl) (by kernel_rfl) (Step.drew _ _) ?_
  refine p (fun _ => r_fieldB rfl) <| pq (fun _ hc => r_loadB (hI8.B3.step hc hne3) rfl rfl) <| p (fun _ => r_move) <| p (fun _ => r_fieldB rfl) <| pq (fun _ hc => r_loadB (hB8'.step hc hne11) rfl rfl) <|
    p (fun _ => r_move) <| p (fun _ => r_fieldB rfl) <| pq (fun _ hc => r_loadB (hB8'.step hc hne11) rfl rfl) <| p (fun _ => r_indexB rfl (congrArg (Value.int .i64) hq) hqk) <|
    pq (fun _ hc => r_loadI (hI8.B22.step hc hne22) rfl hnl) <| p (fun _ => r_build ⟨rfl, rfl, rfl, trivial⟩) <| pk <| o_lits (us := [edCells ((i : Int), os[k].2.1, (numC d os[k]).num[q])]) rfl rfl (by decide) (by exact (by decide : 1 * 3 ≤ 1000000)) ⟨rfl, rfl, trivial⟩ fun b97 w27 hs27 hb97 hB97 => ?_
  have hs27' : Step [] w26 w27 := (Step.drew [] w26).trans hs27
  refine ⟨hs27'.any, ?_⟩
  have hI9 := hI8.ext hs27'
  refine pk <| o_app (news := edCells ((i : Int), os[k].2.1, (numC d os[k]).num[q])) (L := []) hI9.e rfl rfl rfl (hB97.at (by simp)) (fun u hu => by simp only [edCells, List.mem_cons, List.not_mem_nil, or_false] at hu; rcases hu with rfl | rfl | rfl <;> rfl) (by rw [hedn]; have := hc4.el; omega) hI9.st.size fun v28 w28 ho28 hs28 hn28 => ?_
  refine ⟨hs27'.any.trans' hs28, ?_⟩
  have hk28 : EdsO 93 wS.heap.size w28 v28 ((numC d os[k]).ed ++ [((i : Int), os[k].2.1, (numC d os[k]).num[q])]) := EdsO.snoc ho28
  refine p (fun _ => r_fieldB rfl) <| pkl (hl := by kernel_rfl) <| o_store (hI9.B3.step hs28 hne3) rfl rfl (by simp) (EdsO.eds (L := []) hk28 (by simp [hedn]; have := hc4.el; omega) (by simp)).one fun w29 hs29 hB29 => pe ?_
  have hIA := hI9.setE hlb3 hlb22 hne hs28 hk28 hn28 hs29 hB29
  rw [← hg2] at hIA
  rw [← hd2] at hIA
  refine W_region (by rfl) ?_
  refine x (r_add rfl rfl ⟨by omega, by omega⟩) <| x r_move <| xe ?_
  have hz26 := hS8.size
  have hz27 := hs27'.size
  refine ⟨(k + 1, stepE i d os[k], vo3, v28), by simp only []; omega, ⟨rfl, rfl, trivial⟩, hIA, ?_, hv8, ?_, by simp only []; omega, hc5, ?_, ?_, ?_, hf4⟩
  · refine (((hS8.trans hs27')).then hs28 (fun b hb => ?_)).then hs29 (fun b hb => .inl (by simp at hb; simp [hb]))
    rcases hw4 b hb with h1 | h1
    · exact .inl (by simp [h1])
    · exact .inr h1
  · intro b hb
    rcases hn28 b hb with h1 | h1
    · exact hw4 b h1
    · exact .inr (by omega)
  · simp only []; rw [← hm4, hd2]; simp only []; unfold numC; split <;> rfl
  · simp only []; rw [stepE_ed, he4]; omega
  · simp only []; rw [hd2]; simp only []; unfold numC; split
    · simp only [List.length_append]; omega
    · omega
end Go.Proofs.YtfhgnlkdcdlblaaDoor
