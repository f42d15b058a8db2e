/- The function SupervisorConsistent returns true (printed by gen_cy.py). -/
import Derived.Test.YtfhgnlkdcdlblaaDoorCx
namespace Go.Lg
section
variable {P : Program} {f : Fr} {w : World} {d : Option Nat} {ty : Nat} {ps : String} {af : Array Edge} {gd : Option (Nat × Bool)} {all : List Oper} {C : World → Prop} {K : Fr → World → Prop}
theorem tf {pre : List (Nat × Bool)} {i j : Nat} {t1 t2 : Pt} (h : XP P all C (fun f w => (gdF all f (opAt all i) = true ∧ XO P (opAt all i) f w fun f' w' => C w' ∧ XT P all C K t1 f' w') ∧
      (gdF all f (opAt all j) = true ∧ XO P (opAt all j) f w fun f' w' => C w' ∧ XT P all C K t2 f' w')) pre f w) : XT P all C K (.fk pre i j t1 t2) f w := h
theorem tp {l : List (Nat × Bool)} (h : XP P all C K l f w) : XT P all C K (.pl l) f w := h
theorem r_eqT {t t' : Nat} [h : Bk P t] {x y : Operand} {a : Bool} (hx : ev f x = .bool a) (hy : ev f y = .bool a) :
    (execOp (ev f) ⟨d, .binOp .eql t x y t', ty, ps, af, gd⟩).run P w = .ok (.value (.bool true)) w := by
  rw [r_eql_bool hx hy, beq_self_eq_true]
end
end Go.Lg
namespace Go.Proofs.YtfhgnlkdcdlblaaDoor
open Go.Lg

set_option maxHeartbeats 4000000 in
theorem lawConsistent_ok (s0 s1 s2 s3 fl : Nat) (h0 : s0 < 256) (h1 : s1 < 256) (h2 : s2 < 256) (h3 : s3 < 256) (hf : fl < 256) (w : World) :
    Ret Tryd.prog 5 [.agg #[.int .u8 s0, .int .u8 s1, .int .u8 s2, .int .u8 s3], .int .u8 fl] w fun r w' => r = .bool true ∧ Step [] w w' := by
  refine Ret.of_W Tryd.func5 rfl Tryd.ntmps5 Tryd.results5 (by simp) ?_
  refine W_seq <| W_region (by rfl) ?_
  refine xl rfl <| o_box (us := [.int .u8 s0, .int .u8 s1, .int .u8 s2, .int .u8 s3]) rfl fun b2 w1 hs1 hb2 hB2 => x r_assign <| xe ?_
  refine W_seq <| W_seq <| W_region (by rfl) ?_
  refine xl rfl <| xf <| (known_ok w1).mono ?_
  rintro r2 w2 ⟨rfl, hs2⟩
  refine x (r_not rfl) <| xe ?_
  refine W_false rfl ?_
  refine W_skip ?_
  have hB22 := hB2.ext hs2
  refine W_cut (α := Nat × CV) [(5, 5), (10, 26)] (fun z => [(5, .pointer (some ⟨z.1, 0, none⟩))]) (fun z w' => Step [] w2 w' ∧ w2.heap.size ≤ z.1 ∧ Blk w'.heap z.1 56 (cvCells z.2) ∧ CvA [] w'.heap z.2 ∧ z.2.c = ⟨setK (s0 &&& 31) 32, setK (s1 &&& 31) 32, decide (((fl &&& 1 : Nat) : Int) = 1), decide (((fl &&& 2 : Nat) : Int) = 2)⟩) (by rfl) ?_ ?_
  · have fin : ∀ (b5 : Nat) (v14 v19 : Value) (wa w' : World), Step [] w2 wa → w2.heap.size ≤ b5 → IntsO 3 w2.heap.size wa v14 (setK (s0 &&& 31) 32) → IntsO 3 w2.heap.size wa v19 (setK (s1 &&& 31) 32) → b5 ∉ ob v14 → b5 ∉ ob v19 → Step [b5] wa w' →
        Blk w'.heap b5 56 [v14, v19, .bool (decide (((fl &&& 1 : Nat) : Int) = 1)), .bool (decide (((fl &&& 2 : Nat) : Int) = 2))] → Step [] w2 w' ∧ w2.heap.size ≤ b5 ∧ Blk w'.heap b5 56 (cvCells ⟨v14, v19, ⟨setK (s0 &&& 31) 32, setK (s1 &&& 31) 32, decide (((fl &&& 1 : Nat) : Int) = 1), decide (((fl &&& 2 : Nat) : Int) = 2)⟩⟩) ∧ CvA [] w'.heap ⟨v14, v19, ⟨setK (s0 &&& 31) 32, setK (s1 &&& 31) 32, decide (((fl &&& 1 : Nat) : Int) = 1), decide (((fl &&& 2 : Nat) : Int) = 2)⟩⟩ ∧ (⟨v14, v19, ⟨setK (s0 &&& 31) 32, setK (s1 &&& 31) 32, decide (((fl &&& 1 : Nat) : Int) = 1), decide (((fl &&& 2 : Nat) : Int) = 2)⟩⟩ : CV).c = ⟨setK (s0 &&& 31) 32, setK (s1 &&& 31) 32, decide (((fl &&& 1 : Nat) : Int) = 1), decide (((fl &&& 2 : Nat) : Int) = 2)⟩ := by
      intro b5 v14 v19 wa w' h1 h2 h3 h4 h5 h6 h7 h8
      have l1 := setK_len (s0 &&& 31) 32
      have l2 := setK_len (s1 &&& 31) 32
      refine ⟨h1.then1 h7 h2, h2, h8, ⟨IntsO.ints (own_step h3 h7 (fun b hb hb' => ?_)) (by show (setK (s0 &&& 31) 32).length ≤ _; omega) (by simp), IntsO.ints (own_step h4 h7 (fun b hb hb' => ?_)) (by show (setK (s1 &&& 31) 32).length ≤ _; omega) (by simp)⟩, rfl⟩
      · simp only [List.mem_singleton] at hb'; subst hb'; exact h5 hb
      · simp only [List.mem_singleton] at hb'; subst hb'; exact h6 hb
    have q1 := setK_len (s0 &&& 31) 32
    have q2 := setK_len (s1 &&& 31) 32
    have m1 : (s0 &&& 31) ≤ 31 := Nat.and_le_right
    have m2 : (s1 &&& 31) ≤ 31 := Nat.and_le_right
    refine W_drawT (Step [] w2) (.fk [(0, true), (1, true), (2, true), (3, true), (5, true), (6, true), (7, true), (8, true), (10, true), (11, true), (12, true), (13, true), (14, true), (15, true)] 4 17 (.fk [] 9 17 (.pl [(16, true), (17, false), (18, false)]) (.pl [(9, false), (16, true), (18, false)])) (.pl [(4, false), (9, false), (16, true), (18, false)])) Tryd.mixed (by rfl) (by kernel_rfl) (Step.drew _ _) ?_
    refine tf <| p (fun _ => r_indexR (i := 0) rfl rfl (by decide)) <| pq (fun _ hc => r_loadB (hB22.ext hc) rfl rfl) <| p (fun _ => r_and8 (a := s0) (b := 31) rfl rfl h0 (by decide)) <| p (fun _ => r_conv (k' := .u32) rfl ⟨by omega, by omega⟩) <| p (fun _ => r_indexR (i := 1) rfl rfl (by decide)) <|
      pq (fun _ hc => r_loadB (hB22.ext hc) rfl rfl) <| p (fun _ => r_and8 (a := s1) (b := 31) rfl rfl h1 (by decide)) <| p (fun _ => r_conv (k' := .u32) rfl ⟨by omega, by omega⟩) <| p (fun _ => r_move) <| p (fun _ => r_and8 (a := fl) (b := 1) rfl rfl hf (by decide)) <|
      p (fun _ => r_eql rfl rfl) <| p (fun _ => r_move) <| p (fun _ => r_and8 (a := fl) (b := 2) rfl rfl hf (by decide)) <| p (fun _ => r_eql rfl rfl) <| pe ⟨⟨rfl, ?_⟩, rfl, ?_⟩
    · refine xf <| (Set_ok (s0 &&& 31) (by omega) _).mono ?_
      rintro v14 w3 ⟨hs3, h14⟩
      have hs23 := (Step.drew [] w2).trans hs3
      have a14 := IntsO.ints (L := []) h14 (by omega) (by simp)
      refine ⟨hs23, tf <| pe ⟨⟨rfl, ?_⟩, rfl, ?_⟩⟩
      · refine xf <| (Set_ok (s1 &&& 31) (by omega) _).mono ?_
        rintro v19 w4 ⟨hs4, h19⟩
        have a19 := IntsO.ints (L := []) h19 (by omega) (by simp)
        have hs24 := hs23.trans hs4
        have hz3 := hs23.size
        have hz4 := hs4.size
        refine ⟨hs24, tp <| p (fun _ => r_build ⟨a14.cells, a19.cells, rfl, rfl, trivial⟩) <| pk <| o_alloc (us := [.slice none 0 0, .slice none 0 0, .bool false, .bool false]) rfl fun b5 w5 hs5 hb5 hB5 => ⟨hs24.trans hs5, ?_⟩⟩
        refine pkl (hl := by kernel_rfl) <| o_stores (us := [v14, v19, .bool (decide (((fl &&& 1 : Nat) : Int) = 1)), .bool (decide (((fl &&& 2 : Nat) : Int) = 2))]) hB5 rfl rfl rfl rfl ⟨a14.one, a19.one, rfl, rfl, trivial⟩ fun w6 hs6 hB6 => pe ?_
        have t14 := own_lt (own_ext h14 hs4)
        have t19 := own_lt h19
        refine ⟨(b5, ⟨v14, v19, ⟨setK (s0 &&& 31) 32, setK (s1 &&& 31) 32, decide (((fl &&& 1 : Nat) : Int) = 1), decide (((fl &&& 2 : Nat) : Int) = 2)⟩⟩), ⟨rfl, trivial⟩, fin b5 v14 v19 w5 w6 (hs24.trans hs5) (by omega) (own_ext (own_ext h14 hs4) hs5) (own_base (own_ext h19 hs5) (by omega)) (fun hb => ?_) (fun hb => ?_) hs6 hB6⟩
        · have := t14 b5 hb; omega
        · have := t19 b5 hb; omega
      · refine o_alloc (us := [.slice none 0 0, .slice none 0 0, .bool false, .bool false]) rfl fun b5 w4 hs4 hb5 hB5 => ?_
        have hs24 := hs23.trans hs4
        have hz3 := hs23.size
        have hz4 := hs4.size
        have hl5 := hB5.lt
        refine ⟨hs24, tp <| pk <| xf <| (Set_ok (s1 &&& 31) (by omega) _).mono ?_⟩
        rintro v19 w5 ⟨hs5, h19⟩
        have a19 := IntsO.ints (L := []) h19 (by omega) (by simp)
        refine ⟨hs24.trans hs5, p (fun _ => r_build ⟨a14.cells, a19.cells, rfl, rfl, trivial⟩) ?_⟩
        refine pkl (hl := by kernel_rfl) <| o_stores (us := [v14, v19, .bool (decide (((fl &&& 1 : Nat) : Int) = 1)), .bool (decide (((fl &&& 2 : Nat) : Int) = 2))]) (hB5.ext hs5) rfl rfl rfl rfl ⟨a14.one, a19.one, rfl, rfl, trivial⟩ fun w6 hs6 hB6 => pe ?_
        have t14 := own_lt h14
        have t19 := own_ge h19
        refine ⟨(b5, ⟨v14, v19, ⟨setK (s0 &&& 31) 32, setK (s1 &&& 31) 32, decide (((fl &&& 1 : Nat) : Int) = 1), decide (((fl &&& 2 : Nat) : Int) = 2)⟩⟩), ⟨rfl, trivial⟩, fin b5 v14 v19 w5 w6 (hs24.trans hs5) (by omega) (own_ext (own_ext h14 hs4) hs5) (own_base h19 (by omega)) (fun hb => ?_) (fun hb => ?_) hs6 hB6⟩
        · have := t14 b5 hb; omega
        · have := (t19 b5 hb).1; omega
    · refine o_alloc (us := [.slice none 0 0, .slice none 0 0, .bool false, .bool false]) rfl fun b5 w3 hs3 hb5 hB5 => ?_
      have hs23 := (Step.drew [] w2).trans hs3
      have hz3 := hs23.size
      have hl5 := hB5.lt
      have hb5' : w2.heap.size ≤ b5 := hb5
      refine ⟨hs23, tp <| pk <| xf <| (Set_ok (s0 &&& 31) (by omega) _).mono ?_⟩
      rintro v14 w4 ⟨hs4, h14⟩
      have hs24 := hs23.trans hs4
      have a14 := IntsO.ints (L := []) h14 (by omega) (by simp)
      refine ⟨hs24, pk <| xf <| (Set_ok (s1 &&& 31) (by omega) _).mono ?_⟩
      rintro v19 w5 ⟨hs5, h19⟩
      have a19 := IntsO.ints (L := []) h19 (by omega) (by simp)
      have hz4 := hs4.size
      have hz5 := hs5.size
      refine ⟨hs24.trans hs5, p (fun _ => r_build ⟨a14.cells, a19.cells, rfl, rfl, trivial⟩) ?_⟩
      refine pkl (hl := by kernel_rfl) <| o_stores (us := [v14, v19, .bool (decide (((fl &&& 1 : Nat) : Int) = 1)), .bool (decide (((fl &&& 2 : Nat) : Int) = 2))]) ((hB5.ext hs4).ext hs5) rfl rfl rfl rfl ⟨a14.one, a19.one, rfl, rfl, trivial⟩ fun w6 hs6 hB6 => pe ?_
      have t14 := own_ge h14
      have t19 := own_ge h19
      refine ⟨(b5, ⟨v14, v19, ⟨setK (s0 &&& 31) 32, setK (s1 &&& 31) 32, decide (((fl &&& 1 : Nat) : Int) = 1), decide (((fl &&& 2 : Nat) : Int) = 2)⟩⟩), ⟨rfl, trivial⟩, fin b5 v14 v19 w5 w6 (hs24.trans hs5) hb5' (own_base (own_ext h14 hs5) (by omega)) (own_base h19 (by omega)) (fun hb => ?_) (fun hb => ?_) hs6 hB6⟩
      · have := (t14 b5 hb).1; omega
      · have := (t19 b5 hb).1; omega
  rintro ⟨ba, ca⟩ g3 wA ⟨hsA, hba, hBa, hCa, hea⟩
  simp only [] at hba hBa hCa hea
  have hB2A := hB22.ext hsA
  refine W_cut (α := Nat × CV) [(6, 6), (27, 43)] (fun z => [(6, .pointer (some ⟨z.1, 0, none⟩))]) (fun z w' => Step [] wA w' ∧ wA.heap.size ≤ z.1 ∧ Blk w'.heap z.1 56 (cvCells z.2) ∧ CvA [] w'.heap z.2 ∧ z.2.c = ⟨setK (s2 &&& 31) 32, setK (s3 &&& 31) 32, decide (((fl &&& 4 : Nat) : Int) = 4), decide (((fl &&& 8 : Nat) : Int) = 8)⟩) (by rfl) ?_ ?_
  · have fin : ∀ (b5 : Nat) (v14 v19 : Value) (wa w' : World), Step [] wA wa → wA.heap.size ≤ b5 → IntsO 3 wA.heap.size wa v14 (setK (s2 &&& 31) 32) → IntsO 3 wA.heap.size wa v19 (setK (s3 &&& 31) 32) → b5 ∉ ob v14 → b5 ∉ ob v19 → Step [b5] wa w' →
        Blk w'.heap b5 56 [v14, v19, .bool (decide (((fl &&& 4 : Nat) : Int) = 4)), .bool (decide (((fl &&& 8 : Nat) : Int) = 8))] → Step [] wA w' ∧ wA.heap.size ≤ b5 ∧ Blk w'.heap b5 56 (cvCells ⟨v14, v19, ⟨setK (s2 &&& 31) 32, setK (s3 &&& 31) 32, decide (((fl &&& 4 : Nat) : Int) = 4), decide (((fl &&& 8 : Nat) : Int) = 8)⟩⟩) ∧ CvA [] w'.heap ⟨v14, v19, ⟨setK (s2 &&& 31) 32, setK (s3 &&& 31) 32, decide (((fl &&& 4 : Nat) : Int) = 4), decide (((fl &&& 8 : Nat) : Int) = 8)⟩⟩ ∧ (⟨v14, v19, ⟨setK (s2 &&& 31) 32, setK (s3 &&& 31) 32, decide (((fl &&& 4 : Nat) : Int) = 4), decide (((fl &&& 8 : Nat) : Int) = 8)⟩⟩ : CV).c = ⟨setK (s2 &&& 31) 32, setK (s3 &&& 31) 32, decide (((fl &&& 4 : Nat) : Int) = 4), decide (((fl &&& 8 : Nat) : Int) = 8)⟩ := by
      intro b5 v14 v19 wa w' h1 h2 h3 h4 h5 h6 h7 h8
      have l1 := setK_len (s2 &&& 31) 32
      have l2 := setK_len (s3 &&& 31) 32
      refine ⟨h1.then1 h7 h2, h2, h8, ⟨IntsO.ints (own_step h3 h7 (fun b hb hb' => ?_)) (by show (setK (s2 &&& 31) 32).length ≤ _; omega) (by simp), IntsO.ints (own_step h4 h7 (fun b hb hb' => ?_)) (by show (setK (s3 &&& 31) 32).length ≤ _; omega) (by simp)⟩, rfl⟩
      · simp only [List.mem_singleton] at hb'; subst hb'; exact h5 hb
      · simp only [List.mem_singleton] at hb'; subst hb'; exact h6 hb
    have q1 := setK_len (s2 &&& 31) 32
    have q2 := setK_len (s3 &&& 31) 32
    have m1 : (s2 &&& 31) ≤ 31 := Nat.and_le_right
    have m2 : (s3 &&& 31) ≤ 31 := Nat.and_le_right
    refine W_drawT (Step [] wA) (.fk [(0, true), (1, true), (2, true), (3, true), (5, true), (6, true), (7, true), (8, true), (10, true), (11, true), (12, true), (13, true), (14, true), (15, true)] 4 17 (.fk [] 9 17 (.pl [(16, true), (17, false), (18, false)]) (.pl [(9, false), (16, true), (18, false)])) (.pl [(4, false), (9, false), (16, true), (18, false)])) Tryd.mixed (by rfl) (by kernel_rfl) (Step.drew _ _) ?_
    refine tf <| p (fun _ => r_indexR (i := 2) rfl rfl (by decide)) <| pq (fun _ hc => r_loadB (hB2A.ext hc) rfl rfl) <| p (fun _ => r_and8 (a := s2) (b := 31) rfl rfl h2 (by decide)) <| p (fun _ => r_conv (k' := .u32) rfl ⟨by omega, by omega⟩) <| p (fun _ => r_indexR (i := 3) rfl rfl (by decide)) <|
      pq (fun _ hc => r_loadB (hB2A.ext hc) rfl rfl) <| p (fun _ => r_and8 (a := s3) (b := 31) rfl rfl h3 (by decide)) <| p (fun _ => r_conv (k' := .u32) rfl ⟨by omega, by omega⟩) <| p (fun _ => r_move) <| p (fun _ => r_and8 (a := fl) (b := 4) rfl rfl hf (by decide)) <|
      p (fun _ => r_eql rfl rfl) <| p (fun _ => r_move) <| p (fun _ => r_and8 (a := fl) (b := 8) rfl rfl hf (by decide)) <| p (fun _ => r_eql rfl rfl) <| pe ⟨⟨rfl, ?_⟩, rfl, ?_⟩
    · refine xf <| (Set_ok (s2 &&& 31) (by omega) _).mono ?_
      rintro v14 w3 ⟨hs3, h14⟩
      have hs23 := (Step.drew [] wA).trans hs3
      have a14 := IntsO.ints (L := []) h14 (by omega) (by simp)
      refine ⟨hs23, tf <| pe ⟨⟨rfl, ?_⟩, rfl, ?_⟩⟩
      · refine xf <| (Set_ok (s3 &&& 31) (by omega) _).mono ?_
        rintro v19 w4 ⟨hs4, h19⟩
        have a19 := IntsO.ints (L := []) h19 (by omega) (by simp)
        have hs24 := hs23.trans hs4
        have hz3 := hs23.size
        have hz4 := hs4.size
        refine ⟨hs24, tp <| p (fun _ => r_build ⟨a14.cells, a19.cells, rfl, rfl, trivial⟩) <| pk <| o_alloc (us := [.slice none 0 0, .slice none 0 0, .bool false, .bool false]) rfl fun b5 w5 hs5 hb5 hB5 => ⟨hs24.trans hs5, ?_⟩⟩
        refine pkl (hl := by kernel_rfl) <| o_stores (us := [v14, v19, .bool (decide (((fl &&& 4 : Nat) : Int) = 4)), .bool (decide (((fl &&& 8 : Nat) : Int) = 8))]) hB5 rfl rfl rfl rfl ⟨a14.one, a19.one, rfl, rfl, trivial⟩ fun w6 hs6 hB6 => pe ?_
        have t14 := own_lt (own_ext h14 hs4)
        have t19 := own_lt h19
        refine ⟨(b5, ⟨v14, v19, ⟨setK (s2 &&& 31) 32, setK (s3 &&& 31) 32, decide (((fl &&& 4 : Nat) : Int) = 4), decide (((fl &&& 8 : Nat) : Int) = 8)⟩⟩), ⟨rfl, trivial⟩, fin b5 v14 v19 w5 w6 (hs24.trans hs5) (by omega) (own_ext (own_ext h14 hs4) hs5) (own_base (own_ext h19 hs5) (by omega)) (fun hb => ?_) (fun hb => ?_) hs6 hB6⟩
        · have := t14 b5 hb; omega
        · have := t19 b5 hb; omega
      · refine o_alloc (us := [.slice none 0 0, .slice none 0 0, .bool false, .bool false]) rfl fun b5 w4 hs4 hb5 hB5 => ?_
        have hs24 := hs23.trans hs4
        have hz3 := hs23.size
        have hz4 := hs4.size
        have hl5 := hB5.lt
        refine ⟨hs24, tp <| pk <| xf <| (Set_ok (s3 &&& 31) (by omega) _).mono ?_⟩
        rintro v19 w5 ⟨hs5, h19⟩
        have a19 := IntsO.ints (L := []) h19 (by omega) (by simp)
        refine ⟨hs24.trans hs5, p (fun _ => r_build ⟨a14.cells, a19.cells, rfl, rfl, trivial⟩) ?_⟩
        refine pkl (hl := by kernel_rfl) <| o_stores (us := [v14, v19, .bool (decide (((fl &&& 4 : Nat) : Int) = 4)), .bool (decide (((fl &&& 8 : Nat) : Int) = 8))]) (hB5.ext hs5) rfl rfl rfl rfl ⟨a14.one, a19.one, rfl, rfl, trivial⟩ fun w6 hs6 hB6 => pe ?_
        have t14 := own_lt h14
        have t19 := own_ge h19
        refine ⟨(b5, ⟨v14, v19, ⟨setK (s2 &&& 31) 32, setK (s3 &&& 31) 32, decide (((fl &&& 4 : Nat) : Int) = 4), decide (((fl &&& 8 : Nat) : Int) = 8)⟩⟩), ⟨rfl, trivial⟩, fin b5 v14 v19 w5 w6 (hs24.trans hs5) (by omega) (own_ext (own_ext h14 hs4) hs5) (own_base h19 (by omega)) (fun hb => ?_) (fun hb => ?_) hs6 hB6⟩
        · have := t14 b5 hb; omega
        · have := (t19 b5 hb).1; omega
    · refine o_alloc (us := [.slice none 0 0, .slice none 0 0, .bool false, .bool false]) rfl fun b5 w3 hs3 hb5 hB5 => ?_
      have hs23 := (Step.drew [] wA).trans hs3
      have hz3 := hs23.size
      have hl5 := hB5.lt
      have hb5' : wA.heap.size ≤ b5 := hb5
      refine ⟨hs23, tp <| pk <| xf <| (Set_ok (s2 &&& 31) (by omega) _).mono ?_⟩
      rintro v14 w4 ⟨hs4, h14⟩
      have hs24 := hs23.trans hs4
      have a14 := IntsO.ints (L := []) h14 (by omega) (by simp)
      refine ⟨hs24, pk <| xf <| (Set_ok (s3 &&& 31) (by omega) _).mono ?_⟩
      rintro v19 w5 ⟨hs5, h19⟩
      have a19 := IntsO.ints (L := []) h19 (by omega) (by simp)
      have hz4 := hs4.size
      have hz5 := hs5.size
      refine ⟨hs24.trans hs5, p (fun _ => r_build ⟨a14.cells, a19.cells, rfl, rfl, trivial⟩) ?_⟩
      refine pkl (hl := by kernel_rfl) <| o_stores (us := [v14, v19, .bool (decide (((fl &&& 4 : Nat) : Int) = 4)), .bool (decide (((fl &&& 8 : Nat) : Int) = 8))]) ((hB5.ext hs4).ext hs5) rfl rfl rfl rfl ⟨a14.one, a19.one, rfl, rfl, trivial⟩ fun w6 hs6 hB6 => pe ?_
      have t14 := own_ge h14
      have t19 := own_ge h19
      refine ⟨(b5, ⟨v14, v19, ⟨setK (s2 &&& 31) 32, setK (s3 &&& 31) 32, decide (((fl &&& 4 : Nat) : Int) = 4), decide (((fl &&& 8 : Nat) : Int) = 8)⟩⟩), ⟨rfl, trivial⟩, fin b5 v14 v19 w5 w6 (hs24.trans hs5) hb5' (own_base (own_ext h14 hs5) (by omega)) (own_base h19 (by omega)) (fun hb => ?_) (fun hb => ?_) hs6 hB6⟩
      · have := (t14 b5 hb).1; omega
      · have := (t19 b5 hb).1; omega
  rintro ⟨bb, cb⟩ g4 wB ⟨hsB, hbb, hBb, hCb, heb⟩
  simp only [] at hbb hBb hCb heb
  have hBaB := hBa.ext hsB
  have hCaB := hCa.ext hsB
  have i1 : Inc ca.c.en := by rw [hea]; exact setK_inc _ _
  have i2 : Inc ca.c.dis := by rw [hea]; exact setK_inc _ _
  have i3 : Inc cb.c.en := by rw [heb]; exact setK_inc _ _
  have i4 : Inc cb.c.dis := by rw [heb]; exact setK_inc _ _
  have k1 : ca.c.en.length ≤ 1000000 := by rw [hea]; exact Nat.le_trans (setK_len _ _) (by decide)
  have k2 : ca.c.dis.length ≤ 1000000 := by rw [hea]; exact Nat.le_trans (setK_len _ _) (by decide)
  have k3 : cb.c.en.length ≤ 1000000 := by rw [heb]; exact Nat.le_trans (setK_len _ _) (by decide)
  have k4 : cb.c.dis.length ≤ 1000000 := by rw [heb]; exact Nat.le_trans (setK_len _ _) (by decide)
  have e1 : consC ca.c cb.c = lawC ca.c cb.c := consC_law i1 i2 i3 i4
  have e2 : consC cb.c ca.c = lawC ca.c cb.c := (consC_law i3 i4 i1 i2).trans (lawC_symm _ _)
  refine W_seq <| W_region (by rfl) ?_
  refine x (r_loadsB hBaB rfl rfl) <| x (r_loadsB hBb rfl rfl) <| xl rfl <| xf <| (lcons_ok hCaB hCb).mono ?_
  rintro r3 w3 ⟨rfl, hs3⟩
  refine x r_assign <| xe ?_
  have hsW3 := (((hs1.trans hs2).trans hsA).trans hsB).trans hs3
  refine W_seq <| W_region (by rfl) ?_
  refine x (r_loadsB (hBaB.ext hs3) rfl rfl) <| x (r_loadsB (hBb.ext hs3) rfl rfl) <| xl rfl <| xf <| (Consistent_ok (hCaB.ext hs3) (hCb.ext hs3) k1 k2 k3 k4).mono ?_
  rintro r4 w4 ⟨hr4, hs4⟩
  rw [e1] at hr4
  subst hr4
  have hs34 := hs3.trans hs4
  refine x r_move <| x (r_eqT rfl rfl) <| x r_move <| x (r_loadsB (hBb.ext hs34) rfl rfl) <| x (r_loadsB (hBaB.ext hs34) rfl rfl) <| xl rfl <| xf <| (Consistent_ok (hCb.ext hs34) (hCaB.ext hs34) k3 k4 k1 k2).mono ?_
  rintro r5 w5 ⟨hr5, hs5⟩
  rw [e2] at hr5
  subst hr5
  refine x r_move <| x (r_eqT rfl rfl) <| x (r_pick rfl) <| x r_assign <| xe ?_
  exact W_ret ⟨[.bool true], ⟨rfl, trivial⟩, rfl, (hsW3.trans hs4).trans hs5⟩
end Go.Proofs.YtfhgnlkdcdlblaaDoor
