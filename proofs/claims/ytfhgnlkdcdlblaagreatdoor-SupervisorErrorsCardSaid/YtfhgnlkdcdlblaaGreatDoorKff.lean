/- Merged out of 9 texts. -/
import Derived.Test.YtfhgnlkdcdlblaaGreatDoorKfe
import Derived.Test.YtfhgnlkdcdlblaaGreatDoorKfd
import Derived.Test.YtfhgnlkdcdlblaaGreatDoorKfa
import Derived.ChangeSame
import Derived.Carry
import Derived.OpenShut
import Derived.RowKit
import Derived.Test.YtfhgnlkdcdlblaaGreatDoorKfc
import Derived.ChangeSlices
import Derived.WideShapes
import Derived.ProofKit
import Derived.ChangeArms
/- Contract: supervisor.Conforms. -/
namespace Go.Proofs.YtfhgnlkdcdlblaaGreatDoor
open Go.Lg

def natI (k : Nat) : List Int := (List.range k).map fun i : Nat => (i : Int)
theorem natI_len (k : Nat) : (natI k).length = k := by simp [natI]
theorem natI_succ (k : Nat) : natI (k + 1) = natI k ++ [(k : Int)] := by unfold natI; rw [List.range_succ, List.map_append]; rfl
theorem natI_mem (k : Nat) (x : Int) : x ∈ natI k ↔ 0 ≤ x ∧ x < (k : Int) := by
  unfold natI
  simp only [List.mem_map, List.mem_range]
  constructor
  · rintro ⟨i, hi, rfl⟩; omega
  · intro h; exact ⟨x.toNat, by omega, by omega⟩
theorem natI_inc (k : Nat) : Inc (natI k) := by
  induction k with
  | zero => exact List.Pairwise.nil
  | succ k ih =>
    rw [natI_succ]
    refine List.pairwise_append.2 ⟨ih, List.pairwise_singleton _ _, fun x hx y hy => ?_⟩
    have := (natI_mem k x).1 hx
    simp at hy; omega
theorem corS_mem (d : List Int) (k : Nat) (x : Int) : x ∈ corS d k → 0 ≤ x ∧ x < (k : Int) := by
  unfold corS
  simp only [List.mem_map, List.mem_filter, List.mem_range]
  rintro ⟨i, hi, rfl⟩; omega
theorem corS_inc (d : List Int) (k : Nat) : Inc (corS d k) := by
  induction k with
  | zero => exact List.Pairwise.nil
  | succ k ih =>
    rw [corS_succ]
    split
    · refine List.pairwise_append.2 ⟨ih, List.pairwise_singleton _ _, fun x hx y hy => ?_⟩
      have := corS_mem d k x hx
      simp at hy; omega
    · exact ih
theorem cor_inc (A : Aut) : Inc (cor A) := corS_inc _ _
/-- The states that block. -/
def blkS (A : Aut) : List Int := mrg (fun p q => p && !q) (natI A.st.toNat) (cor A)
theorem blkS_inc (A : Aut) : Inc (blkS A) := mrg_inc _ _ _ _ (Nat.le_refl _) (natI_inc _) (corS_inc _ _)
theorem blkS_mem (A : Aut) (x : Int) : x ∈ blkS A ↔ (0 ≤ x ∧ x < (A.st.toNat : Int)) ∧ x ∉ cor A := by
  unfold blkS
  rw [mem_mrg (natI_inc _) (cor_inc A)]
  have hm := natI_mem A.st.toNat x
  by_cases h1 : x ∈ cor A
  · simp [h1]
  · by_cases h2 : x ∈ natI A.st.toNat
    · have := hm.1 h2
      simp [h1, h2]; omega
    · have : ¬ (0 ≤ x ∧ x < (A.st.toNat : Int)) := fun h => h2 (hm.2 h)
      simp only [h1, h2, false_or, false_and, this]
theorem ckS_of {n : Int} {l : List Int} (h1 : ∀ x ∈ l, 0 ≤ x ∧ x < n) (h2 : Inc l) : ckS n none l = 0 := (ckS_zero n l none).2 ⟨h1, h2, fun y hy => by cases hy⟩
/-- What Conforms returns: kind, word, event, error. -/
def cfm (aP aS : Aut) (ul : List Int) : Int × List Int × Int × Int :=
  if opE aP aS ≠ 0 then (0, [], 0, opE aP aS)
  else if ckS 32 none ul ≠ 0 then (0, [], 0, ckS 32 none ul)
  else if (chk aP aS ul).2.2 = false then (2, (chk aP aS ul).1, (chk aP aS ul).2.1, 0)
  else if blkS (opA aP aS) = [] then (1, [], -1, 0)
  else (3, (ptR (opA aP aS) (opA aP aS).st.toNat 0 (blkS (opA aP aS)) (natI (opA aP aS).st.toNat)).1, -1, 0)
theorem Conforms_ok {w : World} {pva pvm pve sa sm se vl : Value} {aP aS : Aut} {ul : List Int} (hp : AutA [] w.heap pva pvm pve aP) (hs : AutA [] w.heap sa sm se aS) (hu : Ints [] w.heap vl ul) (hst : Okay aP → Okay aS → aP.st ≤ 100 ∧ aS.st ≤ 100) :
    Ret Tryz.prog 7 [.agg #[pva, .int .i64 aP.st, pvm, pve], .agg #[sa, .int .i64 aS.st, sm, se], vl] w fun r w' => Step [] w w' ∧ ∃ v, r = .tuple #[.int .i64 (cfm aP aS ul).1, v, .int .i64 (cfm aP aS ul).2.2.1, .int .i64 (cfm aP aS ul).2.2.2] ∧ IntsO 3 w.heap.size w' v (cfm aP aS ul).2.1 := by
  refine Ret.of_W Tryz.func7 rfl Tryz.ntmps7 Tryz.results7 (by simp) ?_
  refine W_seq <| W_region (by rfl) ?_
  refine xl rfl <| o_box (us := [pva, .int .i64 aP.st, pvm, pve]) rfl fun b3 w1 hs1 hb3 hB3 => xl rfl <| o_box (us := [sa, .int .i64 aS.st, sm, se]) rfl fun b4 w2 hs2 hb4 hB4 => x r_assign <| x r_assign <| x r_assign <| x r_assign <| xe ?_
  have hs12 := hs1.trans hs2
  refine W_seq <| W_region (by rfl) ?_
  refine x (r_loadsB (hB3.ext hs2) rfl rfl) <| x (r_loadsB hB4 rfl rfl) <| xl rfl <| xf <| (sopen_ok (hp.ext hs12) (hs.ext hs12) hst).mono ?_
  rintro r3 w3 ⟨hs3, va, vt, rfl, hO⟩
  refine Exists.elim hO.shape fun us hus => ?_
  have hz12 := hs12.size
  refine x r_move <| x (r_extract rfl rfl) <| x (r_extract rfl rfl) <| x (r_extract rfl rfl) <| xl rfl <| o_alloc (us := [.slice none 0 0, .int .i64 0, .slice none 0 0, .slice none 0 0]) rfl fun b10 w4 hs4 hb10 hB10 => xl rfl <| o_stores (us := us) hB10 rfl (show ev _ _ = _ from hus.1) hus.2.1 rfl hus.2.2 fun w5 hs5 hB10' => x r_assign <| x r_assign <| xe ?_
  have hs35 : Step [] w3 w5 := hs4.then1 hs5 hb10
  have hs25 := hs3.trans hs35
  have hW5 := hs12.trans hs25
  refine W_seq <| W_seq <| W_region (by rfl) ?_
  refine x r_move <| x (r_neq rfl rfl) <| xe ?_
  refine W_if rfl (fun h27 => ?_) (fun h27 => ?_)
  · have hcf : cfm aP aS ul = (0, [], 0, opE aP aS) := by unfold cfm; rw [if_pos h27]
    refine W_seq <| W_region (by rfl) ?_
    refine x r_move <| x r_assign <| x r_assign <| x r_assign <| x r_assign <| xe ?_
    refine W_ret ⟨[.int .i64 0, .slice none 0 0, .int .i64 0, .int .i64 (opE aP aS)], ⟨rfl, rfl, rfl, rfl, trivial⟩, hW5, .slice none 0 0, by rw [hcf]; rfl, ?_⟩
    rw [hcf]; exact own_nil _ _ _ _
  have hE : opE aP aS = 0 := Decidable.not_not.1 h27
  refine W_skip ?_
  refine W_seq <| W_seq <| W_region (by rfl) ?_
  refine x r_move <| xl rfl <| xf <| (CheckSet_ok (hu.ext hW5) 32).mono ?_
  rintro r6 w6 ⟨rfl, rfl⟩
  refine x r_assign <| xe ?_
  refine W_seq <| W_region (by rfl) ?_
  refine x r_move <| x (r_neq rfl rfl) <| xe ?_
  refine W_if rfl (fun h32 => ?_) (fun h32 => ?_)
  · have hcf : cfm aP aS ul = (0, [], 0, ckS 32 none ul) := by unfold cfm; rw [if_neg h27, if_pos h32]
    refine W_seq <| W_region (by rfl) ?_
    refine x r_move <| x r_assign <| x r_assign <| x r_assign <| x r_assign <| xe ?_
    refine W_ret ⟨[.int .i64 0, .slice none 0 0, .int .i64 0, .int .i64 (ckS 32 none ul)], ⟨rfl, rfl, rfl, rfl, trivial⟩, hW5, .slice none 0 0, by rw [hcf]; rfl, ?_⟩
    rw [hcf]; exact own_nil _ _ _ _
  have hck : ckS 32 none ul = 0 := Decidable.not_not.1 h32
  have hpar := opE_zero hE
  have hSy := opE_syP hE
  have hst' := hst hpar.1 hpar.2.1
  refine W_skip ?_
  refine W_seq <| W_region (by rfl) ?_
  refine x (r_loadsB ((hB3.ext hs2).ext hs25) rfl rfl) <| x (r_loadsB (hB4.ext hs25) rfl rfl) <| x r_move <| xl rfl <| xf <| (Check_ok (hp.ext hW5) (hs.ext hW5) (hu.ext hW5) hE hck hst').mono ?_
  rintro r7 w7 ⟨hs7, vw, rfl, hvw⟩
  have hW7 := hW5.trans hs7
  have hz7 := hW7.size
  have hz5 := hW5.size
  refine x r_move <| x (r_extract rfl rfl) <| x (r_extract rfl rfl) <| x (r_extract rfl rfl) <| x (r_extract rfl rfl) <| x r_assign <| x r_assign <| x r_assign <| x r_assign <| xe ?_
  refine W_seq <| W_seq <| W_region (by rfl) ?_
  refine x r_move <| x (r_neq rfl rfl) <| xe ?_
  refine W_if rfl (fun h44 => absurd rfl h44) (fun h44 => ?_)
  refine W_skip ?_
  refine W_seq <| W_seq <| W_region (by rfl) ?_
  refine x r_move <| x (r_not rfl) <| xe ?_
  refine W_cond rfl (fun h47 => ?_) (fun h47 => ?_)
  · have hif : (chk aP aS ul).2.2 = false := by simpa using h47
    have hcf : cfm aP aS ul = (2, (chk aP aS ul).1, (chk aP aS ul).2.1, 0) := by unfold cfm; rw [if_neg h27, if_neg h32, if_pos hif]
    refine W_seq <| W_region (by rfl) ?_
    refine x r_move <| x r_move <| x r_assign <| x r_assign <| x r_assign <| x r_assign <| xe ?_
    refine W_ret ⟨[.int .i64 2, vw, .int .i64 (chk aP aS ul).2.1, .int .i64 0], ⟨rfl, rfl, rfl, rfl, trivial⟩, hW7, vw, by rw [hcf]; rfl, ?_⟩
    rw [hcf]; exact own_base hvw (by omega)
  have hif : ¬ (chk aP aS ul).2.2 = false := by simpa using h47
  refine W_skip ?_
  refine Exists.elim (hO.good hE).1 fun qa hq => Exists.elim hq fun qm hq => Exists.elim hq fun qe hq => ?_
  have hA3 : AutA [] w3.heap qa qm qe (opA aP aS) := hq.2 [] (by simp)
  have hus' : us = [qa, .int .i64 (opA aP aS).st, qm, qe] := by
    have h1 := hus.1.symm.trans hq.1
    injection h1 with h2
    exact congrArg Array.toList h2
  subst hus'
  have hA7 := (hA3.ext hs35).ext hs7
  have hB107 := hB10'.ext hs7
  have oA := hSy.2.1
  have hckA : ckA (opA aP aS) = 0 := (ckA_zero _).2 oA
  refine exN oA.st0 fun n hn => ?_
  have hnt : (opA aP aS).st.toNat = n := by omega
  have hst1 := oA.st1
  refine W_seq <| W_region (by rfl) ?_
  refine x r_assign <| xe ?_
  refine W_seq <| W_seq <| W_region (by rfl) ?_
  refine x (r_fieldB rfl) <| x (r_loadB hB107 rfl rfl) <| x r_move <| xe ?_
  refine W_block <| W_loop (α := Nat × Value) [(14, 15), (52, 59)] (fun z => [(14, z.2), (52, .int .i64 z.1)]) (fun z w' => z.1 ≤ n ∧ Step [] w7 w' ∧ IntsO 3 w7.heap.size w' z.2 (natI z.1)) (fun z => n - z.1) (by rfl) (0, .slice none 0 0) ⟨rfl, rfl, trivial⟩ ⟨Nat.zero_le _, Step.refl _ _, own_nil _ _ _ _⟩ ?_
  rintro ⟨k, v⟩ g w8 ⟨hk, hs8, hO8⟩
  simp only [] at hk hO8
  have hnl := natI_len k
  have hz8 := hs8.size
  refine W_seq <| W_region (by rfl) ?_
  refine x (r_lss rfl rfl) <| xe ?_
  refine W_seq <| W_ifn rfl (fun h53 => ?_) (fun h53 => ?_)
  · refine W_exit ?_
    have hkn : k = n := by have h54 : ¬ (k : Int) < (opA aP aS).st := h53; omega
    subst hkn
    have hall : Ints [] w8.heap v (natI k) := own_arr hO8 (by omega) (by simp)
    refine W_seq <| W_region (by rfl) ?_
    refine x (r_loadsB (hB107.ext hs8) rfl rfl) <| xl rfl <| xf <| (Coreachable_ok (hA7.ext hs8)).mono ?_
    rintro r9 w9 ⟨hs9, vg, rfl, hg⟩
    rw [if_pos hckA] at hg
    have hgl : (cor (opA aP aS)).length ≤ k := by unfold cor; rw [hnt]; exact corS_len _ _
    refine x r_move <| x (r_extract rfl rfl) <| x (r_extract rfl rfl) <| x r_assign <| x r_assign <| xe ?_
    refine W_seq <| W_seq <| W_region (by rfl) ?_
    refine x r_move <| x r_move <| xl rfl <| xf <| (Minus_ok (hall.ext hs9) (own_arr (L := []) hg (by omega) (by simp)) (by omega)).mono ?_
    rintro vb w10 ⟨hs10, hb⟩
    have hbe : mrg (fun p q => p && !q) (natI k) (cor (opA aP aS)) = blkS (opA aP aS) := by unfold blkS; rw [hnt]
    rw [hbe] at hb
    have hbl : (blkS (opA aP aS)).length ≤ k + k := by
      rw [← hbe]
      have := mrg_len (fun p q => p && !q) (natI k) (cor (opA aP aS))
      omega
    have hbA : Ints [] w10.heap vb (blkS (opA aP aS)) := own_arr hb (by omega) (by simp)
    have hs710 := (hs8.trans hs9).trans hs10
    refine x r_assign <| xe ?_
    refine W_seq <| W_region (by rfl) ?_
    refine x r_move <| x (r_lenA hbA rfl) <| x (r_gtr rfl rfl) <| xe ?_
    refine W_if rfl (fun h70 => ?_) (fun h70 => ?_)
    · have hbne : blkS (opA aP aS) ≠ [] := by
        intro e
        have h71 : ((blkS (opA aP aS)).length : Int) > 0 := h70
        rw [e] at h71; simp at h71
      have hbm : ∀ x ∈ blkS (opA aP aS), 0 ≤ x ∧ x < (k : Int) := fun x hx => by have := ((blkS_mem _ x).1 hx).1; omega
      have hk0 : 0 < k := by
        obtain ⟨y, hy⟩ := List.exists_mem_of_ne_nil _ hbne
        have := hbm y hy; omega
      have hcf : cfm aP aS ul = (3, (ptR (opA aP aS) k 0 (blkS (opA aP aS)) (natI k)).1, -1, 0) := by unfold cfm; rw [if_neg h27, if_neg h32, if_neg hif, if_neg hbne, hnt]
      refine W_seq <| W_region (by rfl) ?_
      refine x (r_loadsB ((hB107.ext hs710)) rfl rfl) <| x r_move <| x r_move <| xl rfl <| xf <| (Path_ok (from0 := 0) (hA7.ext hs710) hckA hn hk0 hbA (hall.ext (hs9.trans hs10)) (ckS_of (by rw [hn]; exact hbm) (blkS_inc _)) (ckS_of (by rw [hn]; exact fun x hx => (natI_mem k x).1 hx) (natI_inc k)) ((natI_mem k 0).2 (by omega))).mono ?_
      rintro r11 w11 ⟨hs11, vp, rfl, hvp⟩
      refine x r_move <| x (r_extract rfl rfl) <| x (r_extract rfl rfl) <| x (r_extract rfl rfl) <| x r_assign <| xe ?_
      refine W_seq <| W_region (by rfl) ?_
      refine x r_move <| x r_assign <| x r_assign <| x r_assign <| x r_assign <| xe ?_
      have hz10 := hs710.size
      refine W_ret ⟨[.int .i64 3, vp, .int .i64 (-1), .int .i64 0], ⟨rfl, rfl, rfl, rfl, trivial⟩, hW7.trans (hs710.trans hs11), vp, by rw [hcf]; rfl, ?_⟩
      rw [hcf]; exact own_base hvp (by omega)
    have hbe0 : blkS (opA aP aS) = [] := List.eq_nil_of_length_eq_zero (by have h71 : ¬ ((blkS (opA aP aS)).length : Int) > 0 := h70; omega)
    have hcf : cfm aP aS ul = (1, [], -1, 0) := by unfold cfm; rw [if_neg h27, if_neg h32, if_neg hif, if_pos hbe0]
    refine W_skip ?_
    refine W_seq <| W_region (by rfl) ?_
    refine x r_assign <| x r_assign <| x r_assign <| x r_assign <| xe ?_
    refine W_ret ⟨[.int .i64 1, .slice none 0 0, .int .i64 (-1), .int .i64 0], ⟨rfl, rfl, rfl, rfl, trivial⟩, hW7.trans hs710, .slice none 0 0, by rw [hcf]; rfl, ?_⟩
    rw [hcf]; exact own_nil _ _ _ _
  refine W_skip ?_
  have hkn : k < n := by have h54 : (k : Int) < (opA aP aS).st := h53; omega
  refine W_seq <| W_block <| W_seq <| W_region (by rfl) ?_
  refine x r_move <| x r_assign <| xe ?_
  refine W_region (by rfl) ?_
  refine x r_move <| x r_move <| xl rfl <| o_lits (us := [[.int .i64 k]]) rfl rfl (by decide) (by simp) ⟨rfl, rfl, trivial⟩ fun b57 w12 hs12' hb57 hB57 => xl rfl <| o_app (m := 1) (news := [.int .i64 k]) (own_ext hO8 hs12') rfl rfl rfl (hB57.at (L := []) (by simp)) (by simp [Value.oneCell']) (by omega) (by have := hs12'.size; omega) fun v13 w13 hO13 hs13 hn13 =>
    x r_assign <| xe ?_
  refine W_region (by rfl) ?_
  refine x (r_add rfl rfl ⟨by omega, by omega⟩) <| x r_move <| xe ?_
  exact ⟨(k + 1, v13), by simp only []; omega, ⟨rfl, rfl, trivial⟩, hkn, (hs8.trans hs12').then hs13 (fun c hc => .inr (own_ge hO8 c hc).1), by rw [natI_succ]; exact IntsO.snoc hO13⟩
end Go.Proofs.YtfhgnlkdcdlblaaGreatDoor
/- The function SupervisorConforms returns true. -/
namespace Go.Proofs.YtfhgnlkdcdlblaaGreatDoor
open Go.Lg

def bdS (g : List Int) (k : Nat) : List Int := (natI k).filter fun x => decide (x ∉ g)
theorem bdS_succ (g : List Int) (k : Nat) : bdS g (k + 1) = if (k : Int) ∈ g then bdS g k else bdS g k ++ [(k : Int)] := by
  unfold bdS
  rw [natI_succ, List.filter_append]
  by_cases h : (k : Int) ∈ g
  · simp [h]
  · simp [h]
theorem bdS_len (g : List Int) (k : Nat) : (bdS g k).length ≤ k := by
  have := List.length_filter_le (fun x => decide (x ∉ g)) (natI k)
  rw [natI_len] at this; exact this
theorem bdS_blk (A : Aut) : bdS (cor A) A.st.toNat = blkS A := by
  refine Inc.ext (List.Pairwise.filter _ (natI_inc _)) (blkS_inc A) (fun x => ?_)
  rw [blkS_mem]
  unfold bdS
  rw [List.mem_filter, natI_mem]
  simp
theorem found_blk {aP aS : Aut} (hE : opE aP aS = 0) (hb : blkS (opA aP aS) ≠ []) {n : Nat} (hn : (opA aP aS).st = (n : Int)) : (ptR (opA aP aS) n 0 (blkS (opA aP aS)) (natI n)).2 = true := by
  obtain ⟨_, _, hsync, _, _⟩ := opE_zero hE
  obtain ⟨hSy, oA, _⟩ := opE_syP hE
  have hpar := sync_par hsync
  have hq : (opQ aP aS).length = n := by have := hSy.st; omega
  rw [hq] at hpar
  obtain ⟨y, hy⟩ := List.exists_mem_of_ne_nil _ hb
  have hyb := ((blkS_mem _ y).1 hy).1
  have hyn : y = (y.toNat : Int) := by omega
  unfold ptR
  refine pth_found hpar (fun e he => ⟨(oA.ed e he).1, by have := (oA.ed e he).2.2.2; omega, by have := (oA.ed e he).2.2.2; omega⟩) (fun e he => decide_eq_true ((natI_mem n _).2 (by have := (oA.ed e he).2.2.2; omega))) (s := y.toNat) (by omega) ?_
  rw [← hyn]; exact decide_eq_true hy
theorem bak_len (ed : List Ed) : ∀ (f : Nat) (s : Int), (bak ed f s).length ≤ f
  | 0, _ => by simp [bak]
  | f + 1, s => by
    rw [bak]
    split
    · have := bak_len ed f (fto ed s).1
      simp only [List.length_cons]; omega
    · simp
theorem wrd_len (st : List Ed) : ∀ (f k : Nat), (wrd st f k).length ≤ f
  | 0, _ => by simp [wrd]
  | f + 1, k => by
    rw [wrd]
    split
    · have := wrd_len st f (gE st k).2.1.toNat
      simp only [List.length_cons]; omega
    · simp
theorem pthL_len (wt : Int → Bool) (pm : Ed → Bool) (es : List Ed) : ∀ (f i : Nat) (st : List Ed), (pthL wt pm es f i st).1.length ≤ f + i
  | 0, _, _ => by simp [pthL]
  | f + 1, i, st => by
    rw [pthL]
    split
    · split
      · have := wrd_len st (i + 1) i
        simp only [List.length_reverse]; omega
      · have := pthL_len wt pm es f (i + 1) ((outE es (gE st i).1).foldl (addP pm i) st)
        omega
    · simp
theorem ptR_len (a : Aut) (n : Nat) (tg wi : List Int) : (ptR a n 0 tg wi).1.length ≤ n + 1 := pthL_len _ _ _ (n + 1) 0 _
theorem chk_len {aP aS : Aut} (hE : opE aP aS = 0) (ul : List Int) : (chk aP aS ul).1.length ≤ 4097 := by
  have hq := (opE_zero hE).2.2.2.2
  unfold chk
  cases h : chkS aP aS ul with
  | none => simp
  | some k =>
    unfold chkS at h
    have hk := List.mem_range.1 ((List.find?_range_eq_some.1 h).2.1)
    have := bak_len (opA aP aS).ed (k + 1) k
    simp only [List.length_reverse]; omega
theorem cfm_len {aP aS : Aut} (ul : List Int) : (cfm aP aS ul).2.1.length ≤ 10000 := by
  unfold cfm
  split
  · simp
  · rename_i hE
    have hE' : opE aP aS = 0 := Decidable.not_not.1 hE
    split
    · simp
    · split
      · have := chk_len hE' ul; simp only []; omega
      · split
        · simp
        · have := ptR_len (opA aP aS) (opA aP aS).st.toNat (blkS (opA aP aS)) (natI (opA aP aS).st.toNat)
          have := (opE_syP hE').2.1.st1
          simp only []; omega
set_option maxHeartbeats 8000000 in
theorem lawConforms_ok {ns : List Nat} (hn : ns.length = 57) (hns : ∀ n ∈ ns, n < 256) (w : World) :
    Ret Tryz.prog 3 [.agg (bys ns).toArray] w fun r w' => r = .bool true ∧ Step [] w w' := by
  refine Ret.of_W Tryz.func3 rfl Tryz.ntmps3 Tryz.results3 (by simp) ?_
  refine W_seq <| W_region (by rfl) ?_
  refine xl rfl <| o_box (us := bys ns) rfl fun b1 w1 hs1 hb1 hB1 => x r_assign <| xe ?_
  refine W_seq <| W_seq <| W_region (by rfl) ?_
  refine xl rfl <| xf <| (known_ok w1).mono ?_
  rintro r2 w2 ⟨rfl, hs2⟩
  refine x (r_not rfl) <| xe ?_
  refine W_false rfl ?_
  refine W_skip ?_
  refine W_seq <| W_region (by rfl) ?_
  refine x (r_loadsB (hB1.ext hs2) rfl (by simp [bys]; exact hn)) <| xl rfl <| xf <| (make26_ok hn hns).mono ?_
  rintro r3 w3 ⟨hs3, vp, vs, vu, aP, aS, u, rfl, hFP, hFS, hPb, huo⟩
  obtain ⟨pva, pvm, pve, rfl, hPA⟩ := hFP
  obtain ⟨sva, svm, sve, rfl, hSA⟩ := hFS
  have hP0 := hPA [] (by simp)
  have hS0 := hSA [] (by simp)
  have hE := hPb.opE0
  have hst := hPb.st100
  have hst' := hst hPb.p hPb.s
  have hul : (setK u 5).length ≤ 5 := setK_len u 5
  have hU3 : Ints [] w3.heap vu (setK u 5) := own_arr huo (by omega) (by simp)
  have hck : ckS 32 none (setK u 5) = 0 := ckS_of (fun x hx => by have := setK_bd u 5 x hx; omega) (setK_inc u 5)
  obtain ⟨ul, hule⟩ := exD (setK u 5)
  rw [hule] at hU3 hck
  clear huo
  have hW3 := (hs1.trans hs2).trans hs3
  refine x r_move <| x (r_extract rfl rfl) <| x (r_extract rfl rfl) <|
    x (r_extract rfl rfl) <| xl rfl <| o_alloc (us := [.slice none 0 0, .int .i64 0, .slice none 0 0, .slice none 0 0]) rfl fun b3 w4 hs4 hb3 hB3 => xl rfl <| o_alloc (us := [.slice none 0 0, .int .i64 0, .slice none 0 0, .slice none 0 0]) rfl fun b4 w5 hs5 hb4 hB4 =>
    xl rfl <| o_stores (us := [pva, .int .i64 aP.st, pvm, pve]) (hB3.ext hs5) rfl rfl rfl rfl ⟨hP0.al.one, rfl, hP0.mr.one, hP0.ed.one, trivial⟩ fun w6 hs6 hB36 => ?_
  have hl3 := hB3.lt
  have hz4 := hs4.size
  have hB46 := hB4.step hs6 (by simp; omega)
  refine xl rfl <| o_stores (us := [sva, .int .i64 aS.st, svm, sve]) hB46 rfl rfl rfl rfl ⟨hS0.al.one, rfl, hS0.mr.one, hS0.ed.one, trivial⟩ fun w7 hs7 hB47 => x r_assign <| xe ?_
  have hB37 := hB36.step hs7 (by simp; omega)
  have hs37 : Step [] w3 w7 := ((hs4.trans hs5).then1 hs6 hb3).then1 hs7 (by omega)
  have hW7 := hW3.trans hs37
  have hP7 := hP0.ext hs37
  have hS7 := hS0.ext hs37
  have hU7 := hU3.ext hs37
  have hcE : (cfm aP aS ul).2.2.2 = 0 := by
    unfold cfm
    rw [if_neg (by simp [hE]), if_neg (by simp [hck])]
    split
    · rfl
    · split <;> rfl
  refine W_seq <| W_region (by rfl) ?_
  refine x (r_loadsB hB37 rfl rfl) <| x (r_loadsB hB47 rfl rfl) <| x r_move <| xl rfl <| xf <| (Conforms_ok hP7 hS7 hU7 hst).mono ?_
  rintro r8 w8 ⟨hs8, vw, rfl, hvw⟩
  refine x r_move <| x (r_extract rfl rfl) <| x (r_extract rfl rfl) <| x (r_extract rfl rfl) <| x (r_extract rfl rfl) <| x r_assign <| x r_assign <| x r_assign <| x r_assign <| xe ?_
  refine W_seq <| W_region (by rfl) ?_
  refine x (r_loadsB (hB37.ext hs8) rfl rfl) <| x (r_loadsB (hB47.ext hs8) rfl rfl) <| x r_move <| xl rfl <| xf <| (Check_ok (hP7.ext hs8) (hS7.ext hs8) (hU7.ext hs8) hE hck hst').mono ?_
  rintro r9 w9 ⟨hs9, vv, rfl, hvv⟩
  refine x r_move <| x (r_extract rfl rfl) <| x (r_extract rfl rfl) <| x (r_extract rfl rfl) <| x (r_extract rfl rfl) <| x r_assign <| x r_assign <| x r_assign <| x r_assign <| xe ?_
  have hs79 := hs8.trans hs9
  have hW9 := hW7.trans hs79
  refine W_seq <| W_seq <| W_region (by rfl) ?_
  refine x r_move <| xb (r_neq rfl rfl) (fun h51 => absurd hcE h51) (fun h51 => ?_)
  refine x r_move <| x r_move <| x (r_neq rfl rfl) <| x (r_pick rfl) <| xe ?_
  refine W_if rfl (fun h55 => absurd rfl h55) (fun h55 => ?_)
  refine W_skip ?_
  have hcl := cfm_len (aP := aP) (aS := aS) ul
  have hkl := chk_len hE ul
  have hVw : Ints [] w9.heap vw (cfm aP aS ul).2.1 := own_arr (own_ext hvw hs9) (by omega) (by simp)
  have hVv : Ints [] w9.heap vv (chk aP aS ul).1 := own_arr hvv (by omega) (by simp)
  refine W_seq <| W_seq <| W_region (by rfl) ?_
  refine x r_move <| x (r_not rfl) <| xe ?_
  refine W_cond rfl (fun h57 => ?_) (fun h57 => ?_)
  · have hif : (chk aP aS ul).2.2 = false := by simpa using h57
    have hcf : cfm aP aS ul = (2, (chk aP aS ul).1, (chk aP aS ul).2.1, 0) := by unfold cfm; rw [if_neg (by simp [hE]), if_neg (by simp [hck]), if_pos hif]
    have f1 : (cfm aP aS ul).1 = 2 := by rw [hcf]
    have f2 : (cfm aP aS ul).2.1 = (chk aP aS ul).1 := by rw [hcf]
    have f3 : (cfm aP aS ul).2.2.1 = (chk aP aS ul).2.1 := by rw [hcf]
    refine W_seq <| W_region (by rfl) ?_
    refine x r_move <| xb (r_eql rfl rfl) (fun h59 => ?_) (fun h59 => absurd f1 h59)
    refine x r_move <| x r_move <| x r_move <| xl rfl <| xf <| (wEqual_ok hVw hVv).mono ?_
    rintro r11 w11 ⟨hr11, hs11⟩
    rw [decide_eq_true f2] at hr11
    subst hr11
    refine x (r_pick rfl) <| x r_move <| x r_move <| x r_move <| x (r_eql rfl rfl) <| x (r_pick rfl) <| x r_assign <| xe ?_
    exact W_ret ⟨[_], ⟨rfl, trivial⟩, congrArg Value.bool (decide_eq_true f3), hW9.trans hs11⟩
  have hif : ¬ (chk aP aS ul).2.2 = false := by simpa using h57
  have hev : (cfm aP aS ul).2.2.1 = -1 := by
    unfold cfm
    rw [if_neg (by simp [hE]), if_neg (by simp [hck]), if_neg hif]
    split <;> rfl
  obtain ⟨hSy, oA, _⟩ := opE_syP hE
  have hckA : ckA (opA aP aS) = 0 := (ckA_zero _).2 oA
  refine exN oA.st0 fun n hnn => ?_
  have hnt : (opA aP aS).st.toNat = n := by omega
  have hst1 := oA.st1
  refine W_skip ?_
  refine W_seq <| W_region (by rfl) ?_
  refine x (r_loadsB (hB37.ext hs79) rfl rfl) <| x (r_loadsB (hB47.ext hs79) rfl rfl) <| xl rfl <| xf <| (Loop_ok (hP7.ext hs79) (hS7.ext hs79) hst).mono ?_
  rintro r13 w13 ⟨hs13, va, rfl, _, hgd⟩
  obtain ⟨qa, qm, qe, rfl, hAF⟩ := hgd hE
  have hA13 := hAF [] (by simp)
  refine x r_move <| x (r_extract rfl rfl) <| x (r_extract rfl rfl) <| xl rfl <| o_alloc (us := [.slice none 0 0, .int .i64 0, .slice none 0 0, .slice none 0 0]) rfl fun b14 w14 hs14 hb14 hB14 => xl rfl <| o_stores (us := [qa, .int .i64 (opA aP aS).st, qm, qe]) hB14 rfl rfl rfl rfl ⟨hA13.al.one, rfl, hA13.mr.one, hA13.ed.one, trivial⟩ fun w15 hs15 hB14' =>
    x r_assign <| xe ?_
  have hs1315 : Step [] w13 w15 := hs14.then1 hs15 hb14
  have hs915 := hs13.trans hs1315
  refine W_seq <| W_region (by rfl) ?_
  refine x (r_loadsB hB14' rfl rfl) <| xl rfl <| xf <| (Coreachable_ok (hA13.ext hs1315)).mono ?_
  rintro r16 w16 ⟨hs16, vg, rfl, hvg⟩
  rw [if_pos hckA] at hvg
  have hgl : (cor (opA aP aS)).length ≤ n := by unfold cor; rw [hnt]; exact corS_len _ _
  refine x r_move <| x (r_extract rfl rfl) <| x (r_extract rfl rfl) <| x r_assign <| x r_assign <| xe ?_
  have hs916 := hs915.trans hs16
  refine W_seq <| W_seq <| W_region (by rfl) ?_
  refine x r_move <| xb (r_neq rfl rfl) (fun h82 => absurd hE h82) (fun h82 => ?_)
  refine x r_move <| x r_move <| xb (r_neq rfl rfl) (fun h85 => absurd hckA h85) (fun h85 => ?_)
  refine x (r_pick rfl) <| x r_move <| x r_move <| x (r_neq rfl rfl) <| x (r_pick rfl) <| xe ?_
  refine W_if rfl (fun h90 => absurd hev h90) (fun h90 => ?_)
  refine W_skip ?_
  refine W_seq <| W_region (by rfl) ?_
  refine x r_assign <| x r_assign <| xe ?_
  refine W_seq <| W_seq <| W_region (by rfl) ?_
  refine x r_assign <| xe ?_
  have hG16 : Ints [] w16.heap vg (cor (opA aP aS)) := own_arr hvg (by omega) (by simp)
  have hB16 := hB14'.ext hs16
  have hA16 := (hA13.ext hs1315).ext hs16
  refine W_block <| W_loop (α := Nat × Value × Value) [(18, 20), (91, 108)] (fun z => [(18, z.2.1), (19, z.2.2), (20, .int .i64 z.1)])
    (fun z w' => z.1 ≤ n ∧ Step [] w16 w' ∧ IntsO 3 w16.heap.size w' z.2.1 (bdS (cor (opA aP aS)) z.1) ∧ IntsO 3 w16.heap.size w' z.2.2 (natI z.1) ∧ Dj z.2.1 z.2.2) (fun z => n - z.1) (by rfl) (0, .slice none 0 0, .slice none 0 0) ⟨rfl, rfl, rfl, trivial⟩
    ⟨Nat.zero_le _, Step.refl _ _, own_nil _ _ _ _, own_nil _ _ _ _, Dj.nil _⟩ ?_
  rintro ⟨k, vb, vl⟩ g w18 ⟨hk, hs18, hOb, hOl, hdj⟩
  simp only [] at hk hOb hOl hdj
  have hnl := natI_len k
  have hbl := bdS_len (cor (opA aP aS)) k
  have hz18 := hs18.size
  refine W_seq <| W_seq <| W_region (by rfl) ?_
  refine x r_move <| x (r_fieldB rfl) <| x (r_loadB (hB16.ext hs18) rfl rfl) <| x (r_lss rfl rfl) <| xe ?_
  refine W_ifn rfl (fun h94 => ?_) (fun h94 => ?_)
  · refine W_exit ?_
    have hkn : k = n := by have h95 : ¬ (k : Int) < (opA aP aS).st := h94; omega
    subst hkn
    have hbb : bdS (cor (opA aP aS)) k = blkS (opA aP aS) := by rw [← hnt]; exact bdS_blk _
    rw [hbb] at hOb hbl
    have hBl : Ints [] w18.heap vb (blkS (opA aP aS)) := own_arr hOb (by omega) (by simp)
    have hAll : Ints [] w18.heap vl (natI k) := own_arr hOl (by omega) (by simp)
    refine W_seq <| W_seq <| W_region (by rfl) ?_
    refine x r_move <| x (r_lenA hBl rfl) <| x (r_eql rfl rfl) <| xe ?_
    refine W_if rfl (fun h111 => ?_) (fun h111 => ?_)
    · have hb0 : blkS (opA aP aS) = [] := List.eq_nil_of_length_eq_zero (by have h112 : ((blkS (opA aP aS)).length : Int) = 0 := h111; omega)
      have hcf : cfm aP aS ul = (1, [], -1, 0) := by unfold cfm; rw [if_neg (by simp [hE]), if_neg (by simp [hck]), if_neg hif, if_pos hb0]
      have f1 : (cfm aP aS ul).1 = 1 := by rw [hcf]
      have f2 : ((cfm aP aS ul).2.1.length : Int) = 0 := by rw [hcf]; rfl
      refine W_seq <| W_region (by rfl) ?_
      refine x r_move <| xb (r_eql rfl rfl) (fun h113 => ?_) (fun h113 => absurd f1 h113)
      refine x r_move <| x r_move <| x (r_lenA hVw rfl) <| x (r_eql rfl rfl) <| x (r_pick rfl) <| x r_assign <| xe ?_
      exact W_ret ⟨[_], ⟨rfl, trivial⟩, congrArg Value.bool (decide_eq_true f2), hW9.trans (hs916.trans hs18)⟩
    have hbne : blkS (opA aP aS) ≠ [] := fun e => h111 (by rw [e]; rfl)
    have hbm : ∀ x ∈ blkS (opA aP aS), 0 ≤ x ∧ x < (k : Int) := fun x hx => by have := ((blkS_mem _ x).1 hx).1; omega
    have hk0 : 0 < k := by
      obtain ⟨y, hy⟩ := List.exists_mem_of_ne_nil _ hbne
      have := hbm y hy; omega
    have hcf : cfm aP aS ul = (3, (ptR (opA aP aS) k 0 (blkS (opA aP aS)) (natI k)).1, -1, 0) := by unfold cfm; rw [if_neg (by simp [hE]), if_neg (by simp [hck]), if_neg hif, if_neg hbne, hnt]
    have f1 : (cfm aP aS ul).1 = 3 := by rw [hcf]
    have f2 : (cfm aP aS ul).2.1 = (ptR (opA aP aS) k 0 (blkS (opA aP aS)) (natI k)).1 := by rw [hcf]
    have hfd := found_blk hE hbne hnn
    have hpl := ptR_len (opA aP aS) k (blkS (opA aP aS)) (natI k)
    refine W_skip ?_
    refine W_seq <| W_region (by rfl) ?_
    refine x (r_loadsB (hB16.ext hs18) rfl rfl) <| x r_move <| x r_move <| xl rfl <| xf <| (Path_ok (from0 := 0) (hA16.ext hs18) hckA hnn hk0 hBl hAll (ckS_of (by rw [hnn]; exact hbm) (blkS_inc _)) (ckS_of (by rw [hnn]; exact fun x hx => (natI_mem k x).1 hx) (natI_inc k)) ((natI_mem k 0).2 (by omega))).mono ?_
    rintro r20 w20 ⟨hs20, vy, hr20, hvy⟩
    rw [hfd] at hr20
    subst hr20
    refine x r_move <| x (r_extract rfl rfl) <| x (r_extract rfl rfl) <| x (r_extract rfl rfl) <| x r_assign <| x r_assign <| x r_assign <| xe ?_
    have hVw20 := hVw.ext (hs916.trans (hs18.trans hs20))
    have hVy : Ints [] w20.heap vy (ptR (opA aP aS) k 0 (blkS (opA aP aS)) (natI k)).1 := own_arr hvy (by omega) (by simp)
    refine W_seq <| W_region (by rfl) ?_
    refine x r_move <| xb (r_eql rfl rfl) (fun h128 => ?_) (fun h128 => absurd rfl h128)
    refine x r_move <| x r_move <| x (r_pick rfl) <| x r_move <| x r_move <| xb (r_eql rfl rfl) (fun h134 => ?_) (fun h134 => absurd f1 h134)
    refine x (r_pick rfl) <| x r_move <| x r_move <| x r_move <| xl rfl <| xf <| (wEqual_ok hVw20 hVy).mono ?_
    rintro r21 w21 ⟨hr21, hs21⟩
    rw [decide_eq_true f2] at hr21
    subst hr21
    refine x (r_pick rfl) <| x r_assign <| xe ?_
    exact W_ret ⟨[_], ⟨rfl, trivial⟩, rfl, hW9.trans (hs916.trans (hs18.trans (hs20.trans hs21)))⟩
  refine W_skip ?_
  have hkn : k < n := by have h95 : (k : Int) < (opA aP aS).st := h94; omega
  have hbs := bdS_succ (cor (opA aP aS)) k
  refine W_seq <| W_block <| W_seq <| W_region (by rfl) ?_
  refine x r_move <| x r_move <| xl rfl <| o_lits (us := [[.int .i64 k]]) rfl rfl (by decide) (by simp) ⟨rfl, rfl, trivial⟩ fun b99 w24 hs24 hb99 hB99 => xl rfl <| o_app (m := 1) (news := [.int .i64 k]) (own_ext hOl hs24) rfl rfl rfl (hB99.at (L := []) (by simp)) (by simp [Value.oneCell']) (by omega) (by have := hs24.size; omega) fun v25 w25 hO25 hs25 hn25 =>
    x r_assign <| xe ?_
  have hz24 := hs24.size
  have hz25 := hs25.size
  have hs1625 : Step [] w16 w25 := (hs18.trans hs24).then hs25 (fun c hc => .inr (own_ge hOl c hc).1)
  have hOb25 : IntsO 3 w16.heap.size w25 vb (bdS (cor (opA aP aS)) k) := own_step (own_ext hOb hs24) hs25 hdj
  have hdj25 : Dj vb v25 := hdj.grow hn25 (fun b hb => by have := own_lt hOb b hb; omega)
  have hOl25 : IntsO 3 w16.heap.size w25 v25 (natI (k + 1)) := by rw [natI_succ]; exact IntsO.snoc hO25
  refine W_seq <| W_region (by rfl) ?_
  refine x r_move <| x r_move <| xl rfl <| xf <| (has30_ok (hG16.ext hs1625) k).mono ?_
  rintro r26 w26 ⟨rfl, rfl⟩
  refine x (r_not rfl) <| xe ?_
  refine W_cond rfl (fun h104 => ?_) (fun h104 => ?_)
  · have hni : ¬ (k : Int) ∈ cor (opA aP aS) := by simpa using h104
    rw [if_neg hni] at hbs
    refine W_region (by rfl) ?_
    refine x r_move <| x r_move <| xl rfl <| o_lits (us := [[.int .i64 k]]) rfl rfl (by decide) (by simp) ⟨rfl, rfl, trivial⟩ fun b107 w27 hs27 hb107 hB107 => xl rfl <| o_app (m := 1) (news := [.int .i64 k]) (own_ext hOb25 hs27) rfl rfl rfl (hB107.at (L := []) (by simp)) (by simp [Value.oneCell']) (by omega) (by have := hs27.size; omega) fun v28 w28 hO28 hs28 hn28 =>
      x r_assign <| xe ?_
    have hz27 := hs27.size
    refine W_region (by rfl) ?_
    refine x r_move <| x (r_add rfl rfl ⟨by omega, by omega⟩) <| x r_assign <| xe ?_
    refine ⟨(k + 1, v28, v25), by simp only []; omega, ⟨rfl, rfl, rfl, trivial⟩, hkn, (hs1625.trans hs27).then hs28 (fun c hc => .inr (own_ge hOb25 c hc).1), by rw [hbs]; exact IntsO.snoc hO28, own_step (own_ext hOl25 hs27) hs28 hdj25.symm, ?_⟩
    exact (hdj25.symm.grow hn28 (fun b hb => by have := own_lt hOl25 b hb; omega)).symm
  have hni : (k : Int) ∈ cor (opA aP aS) := by simpa using h104
  rw [if_pos hni] at hbs
  refine W_skip ?_
  refine W_region (by rfl) ?_
  refine x r_move <| x (r_add rfl rfl ⟨by omega, by omega⟩) <| x r_assign <| xe ?_
  exact ⟨(k + 1, vb, v25), by simp only []; omega, ⟨rfl, rfl, rfl, trivial⟩, hkn, hs1625, by rw [hbs]; exact hOb25, hOl25, hdj25⟩
end Go.Proofs.YtfhgnlkdcdlblaaGreatDoor
/- Contract: supervisor.Equivalent, for plants and supervisors that are right. -/
namespace Go.Proofs.YtfhgnlkdcdlblaaGreatDoor
open Go.Lg

/-- An entry: its word in memory. -/
structure EV where
  v : Value
  e : En
abbrev evCells (p : EV) : List Value := [.int .i64 p.e.x, .int .i64 p.e.y, p.v]
theorem ev_len (p : EV) : (evCells p).length = 3 := rfl
def KnB (m : List ((Int × Int) × Value)) (K : List (Int × Int)) : Prop := ∀ k, mget m k = if k ∈ K then some (.bool true) else none
theorem KnB.add {m : List ((Int × Int) × Value)} {K : List (Int × Int)} (h : KnB m K) (k : Int × Int) : KnB (mput m k (.bool true)) (K ++ [k]) := by
  intro q
  rw [mget_mput, h q]
  by_cases e : k = q
  · subst e; simp
  · by_cases hq : q ∈ K
    · rw [if_neg e, if_pos hq, if_pos (List.mem_append_left _ hq)]
    · rw [if_neg e, if_neg hq, if_neg (fun hm => by
        rcases List.mem_append.1 hm with h1 | h1
        · exact hq h1
        · simp only [List.mem_singleton] at h1; exact e h1.symm)]
structure EqM (wB : World) (bm : Nat) (vL : Value) (es : List EV) (w : World) : Prop where
  st : Step [] wB w
  l : w.ownsRow wB.heap.size 109 3 vL es.length (es.flatMap evCells)
  m : ∃ m, MapB kPair w.heap bm m ∧ KnB m (((es.map (·.e)).drop 1).map En.ky)
  nb : bm ∉ ob vL
  gb : wB.heap.size ≤ bm
  each : ∀ p ∈ es, Ints (bm :: ob vL) w.heap p.v p.e.u
theorem EqM.ext {wB w w' : World} {bm : Nat} {vL : Value} {es : List EV} (h : EqM wB bm vL es w) (hs : Step [] w w') : EqM wB bm vL es w' :=
  ⟨h.st.trans hs, own_ext h.l hs, let ⟨m, h1, h2⟩ := h.m; ⟨m, h1.ext hs, h2⟩, h.nb, h.gb, fun p hp => (h.each p hp).ext hs⟩
theorem EqM.ltb {wB w : World} {bm : Nat} {vL : Value} {es : List EV} (h : EqM wB bm vL es w) : bm < w.heap.size := let ⟨_, h1, _⟩ := h.m; h1.lt
/-- One entry more: the map, then the list. -/
theorem EqM.add {wB w w1 w2 w3 : World} {bm : Nat} {vL vL' : Value} {es : List EV} {p : EV} {m : List ((Int × Int) × Value)} (h : EqM wB bm vL es w) (hne : 0 < es.length) (hs1 : Step [bm] w w1) (hm : MapB kPair w1.heap bm m) (hk : KnB m ((((es.map (·.e)).drop 1).map En.ky) ++ [p.e.ky])) (hs2 : Step [] w1 w2)
    (hs3 : Step (ob vL) w2 w3) (hl : w3.ownsRow wB.heap.size 109 3 vL' (es.length + 1) (es.flatMap evCells ++ evCells p)) (hn : ∀ b ∈ ob vL', b ∈ ob vL ∨ w2.heap.size ≤ b) (hp : Ints (bm :: ob vL) w.heap p.v p.e.u) : EqM wB bm vL' (es ++ [p]) w3 := by
  have hz1 := hs1.size
  have hz2 := hs2.size
  have hlb := h.ltb
  have hgl := own_ge h.l
  have S12 : Step [] wB w2 := (h.st.then1 hs1 h.gb).trans hs2
  refine ⟨S12.then hs3 (fun b hb => .inr (hgl b hb).1), by rw [List.length_append, List.flatMap_append]; simpa using hl, ⟨m, (hm.ext hs2).step hs3 h.nb, ?_⟩, fun hb => ?_, h.gb, fun q hq => ?_⟩
  · rw [List.map_append, List.drop_append_of_le_length (by simp; omega), List.map_append]; exact hk
  · rcases hn bm hb with h1 | h1
    · exact h.nb h1
    · omega
  · have key : ∀ q : EV, Ints (bm :: ob vL) w.heap q.v q.e.u → Ints (bm :: ob vL') w3.heap q.v q.e.u := fun q hq => by
      have h1 : Ints (bm :: ob vL) w2.heap q.v q.e.u := (hq.step hs1 (fun b hb => by simp at hb; simp [hb])).ext hs2
      have h2 : Ints (bm :: (ob vL' ++ ob vL)) w2.heap q.v q.e.u := h1.up (fun b hb => by
        rcases List.mem_cons.1 hb with rfl | hb
        · exact .inl List.mem_cons_self
        · rcases List.mem_append.1 hb with hb | hb
          · rcases hn b hb with h3 | h3
            · exact .inl (List.mem_cons_of_mem _ h3)
            · exact .inr h3
          · exact .inl (List.mem_cons_of_mem _ hb))
      exact (h2.step hs3 (fun b hb => by simp [hb])).up (fun b hb => .inl (by
        rcases List.mem_cons.1 hb with rfl | hb
        · exact List.mem_cons_self
        · exact List.mem_cons_of_mem _ (List.mem_append_left _ hb)))
    rcases List.mem_append.1 hq with hq | hq
    · exact key q (h.each q hq)
    · simp only [List.mem_singleton] at hq; subst hq; exact key q hp
theorem ev_get {es : List EV} {i : Nat} (h : i < es.length) : (es.map (·.e)).getD i en0 = (es[i]'h).e := by simp [List.getD, h]

set_option maxHeartbeats 16000000 in
theorem Equivalent_ok {w : World} {pva pvm pve sva svm sve tva tvm tve : Value} {aP aS aT : Aut} (hP : AutA [] w.heap pva pvm pve aP) (hS : AutA [] w.heap sva svm sve aS) (hT : AutA [] w.heap tva tvm tve aT) (hst1 : Okay aP → Okay aS → aP.st ≤ 100 ∧ aS.st ≤ 100) (hst2 : Okay aP → Okay aT → aP.st ≤ 100 ∧ aT.st ≤ 100)
    (hE1 : opE aP aS = 0) (hE2 : opE aP aT = 0) :
    Ret Tryz.prog 20 [.agg #[pva, .int .i64 aP.st, pvm, pve], .agg #[sva, .int .i64 aS.st, svm, sve], .agg #[tva, .int .i64 aT.st, tvm, tve]] w fun r w' => Step [] w w' ∧
      match eqv (opA aP aS) (opA aP aT) aP.al with | some u => ∃ v, r = .tuple #[v, .bool false, .int .i64 0] ∧ Ints [] w'.heap v u | none => r = .tuple #[nilS, .bool true, .int .i64 0] := by
  obtain ⟨o1, o2, _⟩ := opE_zero hE1
  obtain ⟨hSyA, hOA, _⟩ := opE_syP hE1
  obtain ⟨hSyB, hOB, _⟩ := opE_syP hE2
  refine Ret.of_W Tryz.func20 rfl Tryz.ntmps20 Tryz.results20 (by simp) ?_
  refine exE (opA aP aS) fun A hA => exE (opA aP aT) fun B hB => ?_
  rw [hA] at hOA hSyA
  rw [hB] at hOB hSyB
  rw [hA, hB]
  refine W_seq <| W_region (by rfl) ?_
  refine xl rfl <| o_box (us := [pva, .int .i64 aP.st, pvm, pve]) rfl fun b3 w1 hs1 hb3 hB3 => xl rfl <| o_box (us := [sva, .int .i64 aS.st, svm, sve]) rfl fun b4 w2 hs2 hb4 hB4 => xl rfl <| o_box (us := [tva, .int .i64 aT.st, tvm, tve]) rfl fun b5 w3 hs3 hb5 hB5 => x r_assign <|
    x r_assign <| x r_assign <| xe ?_
  have hs13 := (hs1.trans hs2).trans hs3
  refine W_seq <| W_region (by rfl) ?_
  refine x (r_loadsB ((hB3.ext hs2).ext hs3) rfl rfl) <| x (r_loadsB (hB4.ext hs3) rfl rfl) <| xl rfl <| xf <| (sopen_ok (hP.ext hs13) (hS.ext hs13) hst1).mono ?_
  rintro r4 w4 ⟨hs4, va4, vt4, hr4, hO4⟩
  rw [hE1] at hr4
  subst hr4
  have hg4 := (hO4.good hE1).1
  rw [hA] at hg4
  obtain ⟨ava, avm, ave, rfl, hAA⟩ := hg4
  have hA4 := hAA [] (by simp)
  refine x r_move <| x (r_extract rfl rfl) <|
    x (r_extract rfl rfl) <| x (r_extract rfl rfl) <| xl rfl <| o_alloc (us := [.slice none 0 0, .int .i64 0, .slice none 0 0, .slice none 0 0]) rfl fun b9 w5 hs5 hb9 hB9 => xl rfl <| o_stores (us := [ava, .int .i64 A.st, avm, ave]) hB9 rfl rfl rfl rfl ⟨hA4.al.one, rfl, hA4.mr.one, hA4.ed.one, trivial⟩ fun w6 hs6 hB96 =>
    x r_assign <| x r_assign <| xe ?_
  have hs46 : Step [] w4 w6 := hs5.then1 hs6 hb9
  have hs36 := hs4.trans hs46
  have hs16 := hs13.trans hs36
  refine W_seq <| W_seq <| W_region (by rfl) ?_
  refine x r_move <| x (r_neq rfl rfl) <| xe ?_
  refine W_false rfl ?_
  refine W_skip ?_
  refine W_seq <| W_region (by rfl) ?_
  refine x (r_loadsB (((hB3.ext hs2).ext hs3).ext hs36) rfl rfl) <| x (r_loadsB (hB5.ext hs36) rfl rfl) <| xl rfl <| xf <| (sopen_ok (hP.ext hs16) (hT.ext hs16) hst2).mono ?_
  rintro r7 w7 ⟨hs7, va7, vt7, hr7, hO7⟩
  rw [hE2] at hr7
  subst hr7
  have hg7 := (hO7.good hE2).1
  rw [hB] at hg7
  obtain ⟨bva, bvm, bve, rfl, hBA⟩ := hg7
  have hB7 := hBA [] (by simp)
  refine x r_move <| x (r_extract rfl rfl) <|
    x (r_extract rfl rfl) <| x (r_extract rfl rfl) <| xl rfl <| o_alloc (us := [.slice none 0 0, .int .i64 0, .slice none 0 0, .slice none 0 0]) rfl fun b11 w8 hs8 hb11 hB11 => xl rfl <| o_stores (us := [bva, .int .i64 B.st, bvm, bve]) hB11 rfl rfl rfl rfl ⟨hB7.al.one, rfl, hB7.mr.one, hB7.ed.one, trivial⟩ fun w9 hs9 hB119 =>
    x r_assign <| x r_assign <| xe ?_
  have hs79 : Step [] w7 w9 := hs8.then1 hs9 hb11
  have hs69 := hs7.trans hs79
  have hs19 := hs16.trans hs69
  have hA9 := (hA4.ext hs46).ext hs69
  have hBb9 := hB7.ext hs79
  have hB99 := hB96.ext hs69
  have hP9 := hP.ext hs19
  have hB39 := (((hB3.ext hs2).ext hs3).ext hs36).ext hs69
  refine W_seq <| W_seq <| W_region (by rfl) ?_
  refine x r_move <| x (r_neq rfl rfl) <| xe ?_
  refine W_false rfl ?_
  refine W_skip ?_
  refine W_seq <| W_region (by rfl) ?_
  refine x r_assign <| xe ?_
  refine W_seq <| W_region (by rfl) ?_
  refine x (r_build ⟨rfl, rfl, rfl, trivial⟩) <| xl rfl <| o_alloc (us := [.int .i64 0, .int .i64 0, .slice none 0 0]) rfl fun b14 w10 hs10 hb14 hB14 => xl rfl <| o_stores (us := [.int .i64 (-1), .int .i64 (-1), .slice none 0 0]) hB14 rfl rfl rfl rfl ⟨rfl, rfl, rfl, trivial⟩ fun w11 hs11 hB1411 =>
    xe ?_
  have hs911 : Step [] w9 w11 := hs10.then1 hs11 hb14
  refine exE (if 0 < A.st then (0 : Int) else -1) fun xi0 hxi0 => exE (if 0 < B.st then (0 : Int) else -1) fun yi0 hyi0 => ?_
  refine W_cut (α := Unit) [(45, 48)] (fun z => []) (fun z w' => Step [] w9 w' ∧ Blk w'.heap b14 109 [.int .i64 xi0, .int .i64 (-1), .slice none 0 0]) (by rfl) ?_ ?_
  · refine W_seq <| W_region (by rfl) ?_
    refine x (r_fieldB rfl) <| x (r_loadB (hB99.ext hs911) rfl rfl) <| x (r_gtr rfl rfl) <| xe ?_
    refine W_ifn rfl (fun h47 => ?_) (fun h47 => ?_)
    · refine W_skip ?_
      rw [if_neg h47] at hxi0
      rw [← hxi0]
      exact ⟨(), trivial, hs911, hB1411⟩
    rw [if_pos h47] at hxi0
    rw [← hxi0]
    refine W_region (by rfl) ?_
    refine x (r_fieldB rfl) <| xl rfl <| o_store (j := 0) hB1411 rfl rfl (by simp) rfl fun w12 hs12 hB1412 => xe ?_
    exact ⟨(), trivial, hs911.then1 hs12 hb14, hB1412⟩
  rintro _ g13 w13 ⟨hs913, hB1413⟩
  refine W_cut (α := Unit) [(49, 52)] (fun z => []) (fun z w' => Step [] w9 w' ∧ Blk w'.heap b14 109 [.int .i64 xi0, .int .i64 yi0, .slice none 0 0]) (by rfl) ?_ ?_
  · refine W_seq <| W_region (by rfl) ?_
    refine x (r_fieldB rfl) <| x (r_loadB (hB119.ext hs913) rfl rfl) <| x (r_gtr rfl rfl) <| xe ?_
    refine W_ifn rfl (fun h51 => ?_) (fun h51 => ?_)
    · refine W_skip ?_
      rw [if_neg h51] at hyi0
      rw [← hyi0]
      exact ⟨(), trivial, hs913, hB1413⟩
    rw [if_pos h51] at hyi0
    rw [← hyi0]
    refine W_region (by rfl) ?_
    refine x (r_fieldB rfl) <| xl rfl <| o_store (j := 1) hB1413 rfl rfl (by simp) rfl fun w14 hs14 hB1414 => xe ?_
    exact ⟨(), trivial, hs913.then1 hs14 hb14, hB1414⟩
  rintro _ g15 w15 ⟨hs915, hB1415⟩
  have hA15 := hA9.ext hs915
  have hBb15 := hBb9.ext hs915
  refine W_seq <| W_draw (Step [] w15) [(0, true), (2, true), (1, false), (3, false), (4, true), (5, true)] Tryz.mixed (by rfl) (by kernel_rfl) (Step.drew _ _) ?_
  refine pq (fun _ hc => r_loadsB ((hB99.ext hs915).ext hc) rfl rfl) <| pq (fun _ hc => r_loadsB ((hB119.ext hs915).ext hc) rfl rfl) <| pk <| xf <| (steps_ok (hA15.ed.ext (Step.drew [] w15))).mono ?_
  rintro r16 w16 ⟨hs16', bu, rfl, hbu, hMu⟩
  have hs1516 := (Step.drew [] w15).trans hs16'
  refine ⟨hs1516, ?_⟩
  refine pk <| xf <| (steps_ok (hBb15.ed.ext hs1516)).mono ?_
  rintro r17 w17 ⟨hs17, bv, rfl, hbv, hMv⟩
  have hs1517 := hs1516.trans hs17
  refine ⟨hs1517, ?_⟩
  refine p (fun _ => r_assign) <| p (fun _ => r_assign) <| pe ?_
  have hMu17 := hMu.ext hs17
  have hs917 := hs915.trans hs1517
  have hA17 := hA15.ext hs1517
  have hBb17 := hBb15.ext hs1517
  have hP17 := hP9.ext hs917
  have hB317 := hB39.ext hs917
  have hB917 := hB99.ext hs917
  have hB1117 := hB119.ext hs917
  refine W_seq <| W_region (by rfl) ?_
  refine x (r_loadsB (hB1415.ext hs1517) rfl rfl) <| xl rfl <| o_lits (us := [evCells ⟨.slice none 0 0, ⟨xi0, yi0, []⟩⟩]) rfl rfl (by decide) (by exact (by decide : 1 * 3 ≤ 1000000)) ⟨rfl, rfl, trivial⟩ fun b58 w18 hs18 hb58 hB58 => x r_assign <| xe ?_
  refine W_seq <| W_region (by rfl) ?_
  refine xl rfl <| o_makeMap kPair fun b59 w19 hs19' hb59 hm59 => x r_assign <| xe ?_
  have hl58 := hB58.lt
  have hz18 := hs18.size
  have hI0 : EqM w17 b59 (.slice (some ⟨b58, 0, none⟩) 1 1) [⟨.slice none 0 0, ⟨xi0, yi0, []⟩⟩] w19 := by
    refine ⟨hs18.trans hs19', own_ext (hB58.own (n := 1) rfl (by omega) hb58) hs19', ⟨[], hm59, fun k => by simp [mget]⟩, by simp [ob]; omega, by omega, fun p hp => ?_⟩
    simp only [List.mem_singleton] at hp; subst hp; exact Arr.nil _ _ _
  have hst0 := hOA.st0
  have hst1' := hOA.st1
  have htt0 := hOB.st0
  have htt1 := hOB.st1
  refine exE ((A.st.toNat + 1) * (B.st.toNat + 1) + 1) fun F hF => ?_
  have hFb : F ≤ 16785410 := by
    have h1 : (A.st.toNat + 1) * (B.st.toNat + 1) ≤ 4097 * 4097 := Nat.mul_le_mul (by omega) (by omega)
    omega
  refine exE (eqv A B aP.al) fun R hR => ?_
  rw [hR]
  have hR0 : eqL A B aP.al F 0 (([⟨.slice none 0 0, ⟨xi0, yi0, []⟩⟩] : List EV).map (·.e)) = R := by rw [← hR]; unfold eqv eqI; rw [hF, hxi0, hyi0]; rfl
  have hJ0 : EnI A B (([⟨.slice none 0 0, ⟨xi0, yi0, []⟩⟩] : List EV).map (·.e)) := by have := eqI_I A B hst0 htt0; unfold eqI at this; rw [hxi0, hyi0] at this; exact this
  have hall := o1.al_le
  refine W_seq <| W_seq <| W_region (by rfl) ?_
  refine x r_assign <| xe ?_
  refine W_block <| W_loop (α := Nat × Value × List EV) [(6, 8), (17, 17), (19, 19), (21, 23), (60, 133)] (fun z => [(17, z.2.1), (19, .int .i64 z.1)])
    (fun z w' => z.1 ≤ F ∧ z.1 ≤ z.2.2.length ∧ EqM w17 b59 z.2.1 z.2.2 w' ∧ EnI A B (z.2.2.map (·.e)) ∧ eqL A B aP.al (F - z.1) z.1 (z.2.2.map (·.e)) = R) (fun z => F - z.1) (by rfl) (0, .slice (some ⟨b58, 0, none⟩) 1 1, [⟨.slice none 0 0, ⟨xi0, yi0, []⟩⟩]) ⟨rfl, rfl, trivial⟩
    ⟨Nat.zero_le _, Nat.zero_le _, hI0, hJ0, hR0⟩ ?_
  rintro ⟨i, vL, es⟩ g20 w20 ⟨hiF, hil, hM20, hJ20, hR20⟩
  simp only [] at hiF hil hM20 hJ20 hR20
  have hle20 := hJ20.le hOA hOB
  rw [hF, List.length_map] at hle20
  have hW20 : Step [] w w20 := (hs19.trans hs917).trans hM20.st
  have hLr : Arr [] w20.heap vL es.length 3 (es.flatMap evCells) := own_arr hM20.l (by omega) (fun b _ => by simp)
  refine W_seq <| W_seq <| W_region (by rfl) ?_
  refine x r_move <| x r_move <| x (r_lenA hLr rfl) <| x (r_lss rfl rfl) <| xe ?_
  refine W_ifn rfl (fun h63 => ?_) (fun h63 => ?_)
  · refine W_exit ?_
    have hRn : R = none := by
      rw [← hR20]
      have h64 : ¬ i < (es.map (·.e)).length := by rw [List.length_map]; have h65 : ¬ (i : Int) < (es.length : Int) := h63; omega
      generalize F - i = f
      cases f with
      | zero => rfl
      | succ f => rw [eqL, if_neg h64]
    rw [hRn]
    refine W_seq <| W_region (by rfl) ?_
    refine x r_assign <| x r_assign <| x r_assign <| xe ?_
    exact W_ret ⟨[nilS, .bool true, .int .i64 0], ⟨rfl, rfl, rfl, trivial⟩, hW20, rfl⟩
  have hi : i < es.length := by have h65 : (i : Int) < (es.length : Int) := h63; omega
  have hFi : F - i = (F - (i + 1)) + 1 := by omega
  rw [hFi, eqL, if_pos (by rw [List.length_map]; exact hi), ev_get hi] at hR20
  have hWd0 := hM20.each _ (List.getElem_mem hi)
  have hJi : (es.map (·.e))[i]'(by rw [List.length_map]; exact hi) = (es[i]'hi).e := by rw [List.getElem_map]
  have hwl := hJ20.wd i (by rw [List.length_map]; exact hi)
  rw [hJi] at hwl
  refine exE (es[i]'hi) fun ei hei => ?_
  rw [hei] at hR20 hWd0 hJi hwl
  have hs20 := hM20.st
  have hWd := hWd0.up (L' := []) (fun b hb => by cases hb)
  refine W_skip ?_
  refine W_seq <| W_block <| W_seq <| W_seq <| W_draw (Step [] w20) [(0, true), (1, true), (2, true), (3, true), (4, true), (5, true), (6, false)] Tryz.mixed (by rfl) (by kernel_rfl) (Step.drew _ _) ?_
  refine p (fun _ => r_move) <| p (fun _ => r_move) <| Lg.pig (g := evCells) (i := i) rfl ev_len hLr rfl rfl hi fun a68 h68 => ?_
  rw [hei] at h68
  refine pq (fun _ hc => r_loadsA (h68.ext hc) rfl rfl) <|
    pq (fun _ hc => r_loadsB ((hB917.ext hs20).ext hc) rfl rfl) <| pq (fun _ hc => r_loadsB ((hB1117.ext hs20).ext hc) rfl rfl) <| pk <| xf <| (differ_ok ((hA17.ext hs20).ext (Step.drew [] w20)) ((hBb17.ext hs20).ext (Step.drew [] w20)) hOA.mri hOB.mri ei.e.x ei.e.y).mono ?_
  rintro r21 w21 ⟨rfl, hs21⟩
  have hs2021 := (Step.drew [] w20).trans hs21
  refine ⟨hs2021, ?_⟩
  refine pe ?_
  refine W_cond rfl (fun h72 => ?_) (fun h72 => ?_)
  · rw [if_pos h72] at hR20
    rw [← hR20]
    refine W_seq <| W_region (by rfl) ?_
    refine x r_move <| x r_move <| xig (g := evCells) (i := i) ev_len (hLr.ext hs2021) rfl rfl hi fun a75 h75 => ?_
    rw [hei] at h75
    refine x (r_field rfl) <| x (r_loadA (h75.fld 2 _ rfl) rfl) <| x r_assign <|
      x r_assign <| x r_assign <| xe ?_
    exact W_ret ⟨[ei.v, .bool false, .int .i64 0], ⟨rfl, rfl, rfl, trivial⟩, hW20.trans hs2021, ei.v, rfl, hWd.ext hs2021⟩
  rw [if_neg (by rw [h72]; simp)] at hR20
  have hM21 := hM20.ext hs2021
  refine exE (aP.al.foldl (eqS A B ei.e) (es.map (·.e))) fun L1 hL1 => ?_
  rw [hL1] at hR20
  refine W_skip ?_
  refine W_seq <| W_region (by rfl) ?_
  refine x (r_fieldB rfl) <| x (r_loadB (hB317.ext hM21.st) rfl rfl) <| x (r_lenA hP17.al rfl) <| x r_move <| xe ?_
  refine W_block <| W_loop (α := Nat × Value × List EV) [(17, 17), (21, 23), (81, 133)] (fun z => [(17, z.2.1), (81, .int .i64 z.1)])
    (fun z w' => z.1 ≤ aP.al.length ∧ EqM w17 b59 z.2.1 z.2.2 w' ∧ EnI A B (z.2.2.map (·.e)) ∧ (∃ h : i < z.2.2.length, z.2.2[i]'h = ei) ∧ (aP.al.drop z.1).foldl (eqS A B ei.e) (z.2.2.map (·.e)) = L1) (fun z => aP.al.length - z.1) (by rfl) (0, vL, es) ⟨rfl, rfl, trivial⟩
    ⟨Nat.zero_le _, hM21, hJ20, ⟨hi, hei⟩, hL1⟩ ?_
  rintro ⟨k, vL2, fs⟩ g22 w22 ⟨hk, hM22, hJ22, hfi, hr22⟩
  simp only [] at hk hM22 hJ22 hfi hr22
  have hle22 := hJ22.le hOA hOB
  rw [hF, List.length_map] at hle22
  refine W_seq <| W_region (by rfl) ?_
  refine x (r_lss rfl rfl) <| xe ?_
  refine W_seq <| W_ifn rfl (fun h82 => ?_) (fun h82 => ?_)
  · refine W_exit ?_
    have hk2 : aP.al.length ≤ k := by have h83 : ¬ (k : Int) < (aP.al.length : Int) := h82; omega
    rw [List.drop_of_length_le hk2] at hr22
    have hr22' : fs.map (·.e) = L1 := hr22
    rw [← hr22'] at hR20
    refine W_region (by rfl) ?_
    refine x r_move <| x (r_add rfl rfl ⟨by omega, by omega⟩) <| x r_assign <| xe ?_
    exact ⟨(i + 1, vL2, fs), by simp only []; omega, ⟨rfl, rfl, trivial⟩, by simp only []; omega, by simp only []; exact hfi.1, hM22, hJ22, hR20⟩
  have hklt : k < aP.al.length := by have h83 : (k : Int) < (aP.al.length : Int) := h82; omega
  rw [drop_cons hklt, List.foldl_cons] at hr22
  refine exE (aP.al[k]'hklt) fun ev0 hev0 => ?_
  rw [hev0] at hr22
  have hs22 := hM22.st
  have hP22 := hP17.ext hs22
  refine W_skip ?_
  refine W_seq <| W_block <| W_seq <| W_region (by rfl) ?_
  refine xii hP22.al rfl rfl hklt fun a83 h83 => ?_
  rw [hev0] at h83
  refine x (r_loadA h83 rfl) <| x r_assign <| xe ?_
  refine Exists.elim hfi fun hi hei => ?_
  have hLr : Arr [] w22.heap vL2 fs.length 3 (fs.flatMap evCells) := own_arr hM22.l (by omega) (fun b _ => by simp)
  have hWd1 := hM22.each _ (List.getElem_mem hi)
  rw [hei] at hWd1
  have hWd := hWd1.up (L' := []) (fun b hb => by cases hb)
  have hU := hMu17.ext hs22
  have hV := hMv.ext hs22
  have hAs := hOA.edi
  have hBs := hOB.edi
  have hc0 : Step [] w22 { w22 with drawn := w22.drawn + 1 } := Step.drew [] w22
  refine W_cut (α := Nat × Value) [(22, 22), (85, 112)] (fun z => [(22, .pointer (some ⟨z.1, 0, none⟩))]) (fun z w' => Step [] w22 w' ∧ Blk w'.heap z.1 109 [.int .i64 (nxt A.ed ei.e.x ev0), .int .i64 (nxt B.ed ei.e.y ev0), z.2] ∧ IntsO 3 w22.heap.size w' z.2 (ei.e.u ++ [ev0]) ∧ w22.heap.size ≤ z.1) (by rfl) ?_ ?_
  · refine W_drawU (Step [] w22) (.f3 [(0, true), (1, true), (2, true), (3, true), (4, true), (5, true), (6, true), (7, true), (9, true), (10, true), (11, true), (12, true), (13, true), (14, true), (15, true), (16, true), (18, true), (19, true), (20, true), (21, true), (22, true), (24, true)] 8 25 28 (.f3 [] 17 25 28 (.f3 [] 23 25 28 (.f2 [] 25 28 (.f2 [] 26 28 (.pl [(27, true), (28, false), (29, false)]) (.pl [(26, false), (27, true), (29, false)])) (.pl [(25, false), (26, false), (27, true), (29, false)])) (.f2 [] 23 28 (.f2 [] 26 28 (.pl [(27, true), (28, false), (29, false)]) (.pl [(26, false), (27, true), (29, false)])) (.pl [(23, false), (26, false), (27, true), (29, false)])) (.f2 [] 23 25 (.pl [(25, false), (26, false), (27, true), (29, false)]) (.pl [(23, false), (26, false), (27, true), (29, false)]))) (.f2 [] 17 28 (.f2 [] 23 28 (.f2 [] 26 28 (.pl [(27, true), (28, false), (29, false)]) (.pl [(26, false), (27, true), (29, false)])) (.pl [(23, false), (26, false), (27, true), (29, false)])) (.pl [(17, false), (23, false), (26, false), (27, true), (29, false)])) (.f2 [] 17 25 (.f2 [] 23 25 (.pl [(25, false), (26, false), (27, true), (29, false)]) (.pl [(23, false), (26, false), (27, true), (29, false)])) (.pl [(17, false), (23, false), (26, false), (27, true), (29, false)]))) (.f2 [] 8 28 (.f2 [] 17 28 (.f2 [] 23 28 (.f2 [] 26 28 (.pl [(27, true), (28, false), (29, false)]) (.pl [(26, false), (27, true), (29, false)])) (.pl [(23, false), (26, false), (27, true), (29, false)])) (.pl [(17, false), (23, false), (26, false), (27, true), (29, false)])) (.pl [(8, false), (17, false), (23, false), (26, false), (27, true), (29, false)])) (.f2 [] 8 25 (.f2 [] 17 25 (.f2 [] 23 25 (.pl [(25, false), (26, false), (27, true), (29, false)]) (.pl [(23, false), (26, false), (27, true), (29, false)])) (.pl [(17, false), (23, false), (26, false), (27, true), (29, false)])) (.pl [(8, false), (17, false), (23, false), (26, false), (27, true), (29, false)]))) Tryz.mixed (by rfl) (by kernel_rfl) (Step.drew _ _) ?_
    refine u3 <| p (fun _ => r_move) <| p (fun _ => r_move) <| p (fun _ => r_move) <| p (fun _ => r_move) <| Lg.pig (g := evCells) (i := i) rfl ev_len hLr rfl rfl hi fun a89 h89 => ?_
    rw [hei] at h89
    refine p (fun _ => r_field rfl) <| pq (fun _ hc => r_loadA ((h89.fld 0 _ rfl).ext hc) rfl) <| p (fun _ => r_move) <| p (fun _ => r_move) <| p (fun _ => r_move) <| p (fun _ => r_move) <| p (fun _ => r_move) <| Lg.pig (g := evCells) (i := i) rfl ev_len hLr rfl rfl hi fun a98 h98 => ?_
    rw [hei] at h98
    refine p (fun _ => r_field rfl) <| pq (fun _ hc => r_loadA ((h98.fld 1 _ rfl).ext hc) rfl) <| p (fun _ => r_move) <| p (fun _ => r_move) <| p (fun _ => r_move) <| Lg.pig (g := evCells) (i := i) rfl ev_len hLr rfl rfl hi fun a105 h105 => ?_
    rw [hei] at h105
    refine p (fun _ => r_field rfl) <| pq (fun _ hc => r_loadA ((h105.fld 2 _ rfl).ext hc) rfl) <| p (fun _ => r_move) <| pe ⟨?_, ?_, ?_⟩
    · refine ue <| xc (first := []) (capt := []) rfl <| (eto_ok (hU.ext hc0) hAs ei.e.x ev0).mono ?_
      rintro r1 w1 ⟨rfl, hs1⟩
      have hc1 := hc0.trans hs1
      have hz1 := hs1.size
      refine ⟨hc1, ?_⟩
      refine u3 <| pe ⟨?_, ?_, ?_⟩
      · refine ue <| xc (first := []) (capt := []) rfl <| (eto_ok (hV.ext hc1) hBs ei.e.y ev0).mono ?_
        rintro r2 w2 ⟨rfl, hs2⟩
        have hc2 := hc1.trans hs2
        have hz2 := hs2.size
        refine ⟨hc2, ?_⟩
        refine u3 <| pe ⟨?_, ?_, ?_⟩
        · refine ue <| xf <| (clone_ok (hWd.ext hc2)).mono ?_
          rintro vk w3 ⟨hs3, hok⟩
          have hc3 := hc2.trans hs3
          have hz3 := hs3.size
          have hgek := own_ge hok
          refine ⟨hc3, ?_⟩
          refine u2 <| pe ⟨?_, ?_⟩
          · refine ue <| o_lits (us := [[.int .i64 ev0]]) rfl rfl (by decide) (by simp) ⟨rfl, rfl, trivial⟩ fun bl w4 hs4 hbl hBl => ?_
            have hc4 := hc3.trans hs4
            have hz4 := hs4.size
            have hll := hBl.lt
            refine ⟨hc4, ?_⟩
            refine u2 <| pe ⟨?_, ?_⟩
            · refine ue <| o_app (news := [.int .i64 ev0]) (L := []) (own_ext hok hs4) rfl rfl rfl (hBl.at (by simp)) (by simp [Value.oneCell']) (by omega) (by omega) fun va w5 hoa ht5 hna => ?_
              have hc5 : Step [] w22 w5 := hc4.then ht5 (fun b hb => .inr (by have := (hgek b hb).1; have := hc0.size; omega))
              have hoa2 := IntsO.snoc (own_base hoa (show w22.heap.size ≤ _ by have := hc0.size; omega))
              have hz5 := ht5.size
              refine ⟨hc5, ?_⟩
              refine uP <| ?_
              have hone := (IntsO.ints (L := []) hoa2 (by simp; omega) (by simp)).one
              have hcel := (IntsO.ints (L := []) hoa2 (by simp; omega) (by simp)).cells
              refine p (fun _ => r_build ⟨rfl, rfl, hcel, trivial⟩) <| ?_
              refine pk <| o_alloc (us := [.int .i64 0, .int .i64 0, .slice none 0 0]) rfl fun bp w6 hs6 hbp hBp => ?_
              have hc6 := hc5.trans hs6
              have hz6 := hs6.size
              have hlp := hBp.lt
              refine ⟨hc6, ?_⟩
              refine pk <| o_stores (us := [.int .i64 (nxt A.ed ei.e.x ev0), .int .i64 (nxt B.ed ei.e.y ev0), va]) hBp rfl rfl rfl rfl ⟨rfl, rfl, hone, trivial⟩ fun wz hsz hBz => ⟨hc6.then1 hsz (by have := hc0.size; omega), pe ?_⟩
              have hna2 : bp ∉ ob va := fun hb => by rcases hna bp hb with h1 | h1; have := hgek bp h1; omega; have := (own_ge hoa bp hb).2; omega
              exact ⟨(bp, va), ⟨rfl, trivial⟩, hc6.then1 hsz (by have := hc0.size; omega), hBz, own_step (own_ext hoa2 hs6) hsz (fun b hb => by simp; exact fun e => hna2 (e ▸ hb)), by have := hc0.size; omega⟩
            · refine ue <| o_alloc (us := [.int .i64 0, .int .i64 0, .slice none 0 0]) rfl fun bp w5 hs5 hbp hBp => ?_
              have hc5 := hc4.trans hs5
              have hz5 := hs5.size
              have hlp := hBp.lt
              refine ⟨hc5, ?_⟩
              refine uP <| ?_
              refine pk <| o_app (news := [.int .i64 ev0]) (L := []) (own_ext hok (hs4.trans hs5)) rfl rfl rfl ((hBl.ext hs5).at (by simp)) (by simp [Value.oneCell']) (by omega) (by omega) fun va w6 hoa ht6 hna => ?_
              have hc6 : Step [] w22 w6 := hc5.then ht6 (fun b hb => .inr (by have := (hgek b hb).1; have := hc0.size; omega))
              have hoa2 := IntsO.snoc (own_base hoa (show w22.heap.size ≤ _ by have := hc0.size; omega))
              have hz6 := ht6.size
              have hBp2 := hBp.step ht6 (fun hb => by have := hgek bp hb; omega)
              refine ⟨hc6, ?_⟩
              have hone := (IntsO.ints (L := []) hoa2 (by simp; omega) (by simp)).one
              have hcel := (IntsO.ints (L := []) hoa2 (by simp; omega) (by simp)).cells
              refine p (fun _ => r_build ⟨rfl, rfl, hcel, trivial⟩) <| ?_
              refine pk <| o_stores (us := [.int .i64 (nxt A.ed ei.e.x ev0), .int .i64 (nxt B.ed ei.e.y ev0), va]) hBp2 rfl rfl rfl rfl ⟨rfl, rfl, hone, trivial⟩ fun wz hsz hBz => ⟨hc6.then1 hsz (by have := hc0.size; omega), pe ?_⟩
              have hna2 : bp ∉ ob va := fun hb => by rcases hna bp hb with h1 | h1; have := hgek bp h1; omega; have := (own_ge hoa bp hb).2; omega
              exact ⟨(bp, va), ⟨rfl, trivial⟩, hc6.then1 hsz (by have := hc0.size; omega), hBz, own_step hoa2 hsz (fun b hb => by simp; exact fun e => hna2 (e ▸ hb)), by have := hc0.size; omega⟩
          · refine ue <| o_alloc (us := [.int .i64 0, .int .i64 0, .slice none 0 0]) rfl fun bp w4 hs4 hbp hBp => ?_
            have hc4 := hc3.trans hs4
            have hz4 := hs4.size
            have hlp := hBp.lt
            refine ⟨hc4, ?_⟩
            refine uP <| ?_
            refine pk <| o_lits (us := [[.int .i64 ev0]]) rfl rfl (by decide) (by simp) ⟨rfl, rfl, trivial⟩ fun bl w5 hs5 hbl hBl => ?_
            have hc5 := hc4.trans hs5
            have hz5 := hs5.size
            have hll := hBl.lt
            refine ⟨hc5, ?_⟩
            refine pk <| o_app (news := [.int .i64 ev0]) (L := []) (own_ext hok (hs4.trans hs5)) rfl rfl rfl (hBl.at (by simp)) (by simp [Value.oneCell']) (by omega) (by omega) fun va w6 hoa ht6 hna => ?_
            have hc6 : Step [] w22 w6 := hc5.then ht6 (fun b hb => .inr (by have := (hgek b hb).1; have := hc0.size; omega))
            have hoa2 := IntsO.snoc (own_base hoa (show w22.heap.size ≤ _ by have := hc0.size; omega))
            have hz6 := ht6.size
            have hBp2 := (hBp.ext hs5).step ht6 (fun hb => by have := hgek bp hb; omega)
            refine ⟨hc6, ?_⟩
            have hone := (IntsO.ints (L := []) hoa2 (by simp; omega) (by simp)).one
            have hcel := (IntsO.ints (L := []) hoa2 (by simp; omega) (by simp)).cells
            refine p (fun _ => r_build ⟨rfl, rfl, hcel, trivial⟩) <| ?_
            refine pk <| o_stores (us := [.int .i64 (nxt A.ed ei.e.x ev0), .int .i64 (nxt B.ed ei.e.y ev0), va]) hBp2 rfl rfl rfl rfl ⟨rfl, rfl, hone, trivial⟩ fun wz hsz hBz => ⟨hc6.then1 hsz (by have := hc0.size; omega), pe ?_⟩
            have hna2 : bp ∉ ob va := fun hb => by rcases hna bp hb with h1 | h1; have := hgek bp h1; omega; have := (own_ge hoa bp hb).2; omega
            exact ⟨(bp, va), ⟨rfl, trivial⟩, hc6.then1 hsz (by have := hc0.size; omega), hBz, own_step hoa2 hsz (fun b hb => by simp; exact fun e => hna2 (e ▸ hb)), by have := hc0.size; omega⟩
        · refine ue <| o_lits (us := [[.int .i64 ev0]]) rfl rfl (by decide) (by simp) ⟨rfl, rfl, trivial⟩ fun bl w3 hs3 hbl hBl => ?_
          have hc3 := hc2.trans hs3
          have hz3 := hs3.size
          have hll := hBl.lt
          refine ⟨hc3, ?_⟩
          refine u2 <| pe ⟨?_, ?_⟩
          · refine ue <| xf <| (clone_ok (hWd.ext hc3)).mono ?_
            rintro vk w4 ⟨hs4, hok⟩
            have hc4 := hc3.trans hs4
            have hz4 := hs4.size
            have hgek := own_ge hok
            refine ⟨hc4, ?_⟩
            refine u2 <| pe ⟨?_, ?_⟩
            · refine ue <| o_app (news := [.int .i64 ev0]) (L := []) hok rfl rfl rfl ((hBl.ext hs4).at (by simp)) (by simp [Value.oneCell']) (by omega) (by omega) fun va w5 hoa ht5 hna => ?_
              have hc5 : Step [] w22 w5 := hc4.then ht5 (fun b hb => .inr (by have := (hgek b hb).1; have := hc0.size; omega))
              have hoa2 := IntsO.snoc (own_base hoa (show w22.heap.size ≤ _ by have := hc0.size; omega))
              have hz5 := ht5.size
              refine ⟨hc5, ?_⟩
              refine uP <| ?_
              have hone := (IntsO.ints (L := []) hoa2 (by simp; omega) (by simp)).one
              have hcel := (IntsO.ints (L := []) hoa2 (by simp; omega) (by simp)).cells
              refine p (fun _ => r_build ⟨rfl, rfl, hcel, trivial⟩) <| ?_
              refine pk <| o_alloc (us := [.int .i64 0, .int .i64 0, .slice none 0 0]) rfl fun bp w6 hs6 hbp hBp => ?_
              have hc6 := hc5.trans hs6
              have hz6 := hs6.size
              have hlp := hBp.lt
              refine ⟨hc6, ?_⟩
              refine pk <| o_stores (us := [.int .i64 (nxt A.ed ei.e.x ev0), .int .i64 (nxt B.ed ei.e.y ev0), va]) hBp rfl rfl rfl rfl ⟨rfl, rfl, hone, trivial⟩ fun wz hsz hBz => ⟨hc6.then1 hsz (by have := hc0.size; omega), pe ?_⟩
              have hna2 : bp ∉ ob va := fun hb => by rcases hna bp hb with h1 | h1; have := hgek bp h1; omega; have := (own_ge hoa bp hb).2; omega
              exact ⟨(bp, va), ⟨rfl, trivial⟩, hc6.then1 hsz (by have := hc0.size; omega), hBz, own_step (own_ext hoa2 hs6) hsz (fun b hb => by simp; exact fun e => hna2 (e ▸ hb)), by have := hc0.size; omega⟩
            · refine ue <| o_alloc (us := [.int .i64 0, .int .i64 0, .slice none 0 0]) rfl fun bp w5 hs5 hbp hBp => ?_
              have hc5 := hc4.trans hs5
              have hz5 := hs5.size
              have hlp := hBp.lt
              refine ⟨hc5, ?_⟩
              refine uP <| ?_
              refine pk <| o_app (news := [.int .i64 ev0]) (L := []) (own_ext hok hs5) rfl rfl rfl ((hBl.ext (hs4.trans hs5)).at (by simp)) (by simp [Value.oneCell']) (by omega) (by omega) fun va w6 hoa ht6 hna => ?_
              have hc6 : Step [] w22 w6 := hc5.then ht6 (fun b hb => .inr (by have := (hgek b hb).1; have := hc0.size; omega))
              have hoa2 := IntsO.snoc (own_base hoa (show w22.heap.size ≤ _ by have := hc0.size; omega))
              have hz6 := ht6.size
              have hBp2 := hBp.step ht6 (fun hb => by have := hgek bp hb; omega)
              refine ⟨hc6, ?_⟩
              have hone := (IntsO.ints (L := []) hoa2 (by simp; omega) (by simp)).one
              have hcel := (IntsO.ints (L := []) hoa2 (by simp; omega) (by simp)).cells
              refine p (fun _ => r_build ⟨rfl, rfl, hcel, trivial⟩) <| ?_
              refine pk <| o_stores (us := [.int .i64 (nxt A.ed ei.e.x ev0), .int .i64 (nxt B.ed ei.e.y ev0), va]) hBp2 rfl rfl rfl rfl ⟨rfl, rfl, hone, trivial⟩ fun wz hsz hBz => ⟨hc6.then1 hsz (by have := hc0.size; omega), pe ?_⟩
              have hna2 : bp ∉ ob va := fun hb => by rcases hna bp hb with h1 | h1; have := hgek bp h1; omega; have := (own_ge hoa bp hb).2; omega
              exact ⟨(bp, va), ⟨rfl, trivial⟩, hc6.then1 hsz (by have := hc0.size; omega), hBz, own_step hoa2 hsz (fun b hb => by simp; exact fun e => hna2 (e ▸ hb)), by have := hc0.size; omega⟩
          · refine ue <| o_alloc (us := [.int .i64 0, .int .i64 0, .slice none 0 0]) rfl fun bp w4 hs4 hbp hBp => ?_
            have hc4 := hc3.trans hs4
            have hz4 := hs4.size
            have hlp := hBp.lt
            refine ⟨hc4, ?_⟩
            refine uP <| ?_
            refine pk <| xf <| (clone_ok (hWd.ext hc4)).mono ?_
            rintro vk w5 ⟨hs5, hok⟩
            have hc5 := hc4.trans hs5
            have hz5 := hs5.size
            have hgek := own_ge hok
            refine ⟨hc5, ?_⟩
            refine pk <| o_app (news := [.int .i64 ev0]) (L := []) hok rfl rfl rfl ((hBl.ext (hs4.trans hs5)).at (by simp)) (by simp [Value.oneCell']) (by omega) (by omega) fun va w6 hoa ht6 hna => ?_
            have hc6 : Step [] w22 w6 := hc5.then ht6 (fun b hb => .inr (by have := (hgek b hb).1; have := hc0.size; omega))
            have hoa2 := IntsO.snoc (own_base hoa (show w22.heap.size ≤ _ by have := hc0.size; omega))
            have hz6 := ht6.size
            have hBp2 := (hBp.ext hs5).step ht6 (fun hb => by have := hgek bp hb; omega)
            refine ⟨hc6, ?_⟩
            have hone := (IntsO.ints (L := []) hoa2 (by simp; omega) (by simp)).one
            have hcel := (IntsO.ints (L := []) hoa2 (by simp; omega) (by simp)).cells
            refine p (fun _ => r_build ⟨rfl, rfl, hcel, trivial⟩) <| ?_
            refine pk <| o_stores (us := [.int .i64 (nxt A.ed ei.e.x ev0), .int .i64 (nxt B.ed ei.e.y ev0), va]) hBp2 rfl rfl rfl rfl ⟨rfl, rfl, hone, trivial⟩ fun wz hsz hBz => ⟨hc6.then1 hsz (by have := hc0.size; omega), pe ?_⟩
            have hna2 : bp ∉ ob va := fun hb => by rcases hna bp hb with h1 | h1; have := hgek bp h1; omega; have := (own_ge hoa bp hb).2; omega
            exact ⟨(bp, va), ⟨rfl, trivial⟩, hc6.then1 hsz (by have := hc0.size; omega), hBz, own_step hoa2 hsz (fun b hb => by simp; exact fun e => hna2 (e ▸ hb)), by have := hc0.size; omega⟩
        · refine ue <| o_alloc (us := [.int .i64 0, .int .i64 0, .slice none 0 0]) rfl fun bp w3 hs3 hbp hBp => ?_
          have hc3 := hc2.trans hs3
          have hz3 := hs3.size
          have hlp := hBp.lt
          refine ⟨hc3, ?_⟩
          refine u2 <| pe ⟨?_, ?_⟩
          · refine ue <| xf <| (clone_ok (hWd.ext hc3)).mono ?_
            rintro vk w4 ⟨hs4, hok⟩
            have hc4 := hc3.trans hs4
            have hz4 := hs4.size
            have hgek := own_ge hok
            refine ⟨hc4, ?_⟩
            refine uP <| ?_
            refine pk <| o_lits (us := [[.int .i64 ev0]]) rfl rfl (by decide) (by simp) ⟨rfl, rfl, trivial⟩ fun bl w5 hs5 hbl hBl => ?_
            have hc5 := hc4.trans hs5
            have hz5 := hs5.size
            have hll := hBl.lt
            refine ⟨hc5, ?_⟩
            refine pk <| o_app (news := [.int .i64 ev0]) (L := []) (own_ext hok hs5) rfl rfl rfl (hBl.at (by simp)) (by simp [Value.oneCell']) (by omega) (by omega) fun va w6 hoa ht6 hna => ?_
            have hc6 : Step [] w22 w6 := hc5.then ht6 (fun b hb => .inr (by have := (hgek b hb).1; have := hc0.size; omega))
            have hoa2 := IntsO.snoc (own_base hoa (show w22.heap.size ≤ _ by have := hc0.size; omega))
            have hz6 := ht6.size
            have hBp2 := (hBp.ext (hs4.trans hs5)).step ht6 (fun hb => by have := hgek bp hb; omega)
            refine ⟨hc6, ?_⟩
            have hone := (IntsO.ints (L := []) hoa2 (by simp; omega) (by simp)).one
            have hcel := (IntsO.ints (L := []) hoa2 (by simp; omega) (by simp)).cells
            refine p (fun _ => r_build ⟨rfl, rfl, hcel, trivial⟩) <| ?_
            refine pk <| o_stores (us := [.int .i64 (nxt A.ed ei.e.x ev0), .int .i64 (nxt B.ed ei.e.y ev0), va]) hBp2 rfl rfl rfl rfl ⟨rfl, rfl, hone, trivial⟩ fun wz hsz hBz => ⟨hc6.then1 hsz (by have := hc0.size; omega), pe ?_⟩
            have hna2 : bp ∉ ob va := fun hb => by rcases hna bp hb with h1 | h1; have := hgek bp h1; omega; have := (own_ge hoa bp hb).2; omega
            exact ⟨(bp, va), ⟨rfl, trivial⟩, hc6.then1 hsz (by have := hc0.size; omega), hBz, own_step hoa2 hsz (fun b hb => by simp; exact fun e => hna2 (e ▸ hb)), by have := hc0.size; omega⟩
          · refine ue <| o_lits (us := [[.int .i64 ev0]]) rfl rfl (by decide) (by simp) ⟨rfl, rfl, trivial⟩ fun bl w4 hs4 hbl hBl => ?_
            have hc4 := hc3.trans hs4
            have hz4 := hs4.size
            have hll := hBl.lt
            refine ⟨hc4, ?_⟩
            refine uP <| ?_
            refine pk <| xf <| (clone_ok (hWd.ext hc4)).mono ?_
            rintro vk w5 ⟨hs5, hok⟩
            have hc5 := hc4.trans hs5
            have hz5 := hs5.size
            have hgek := own_ge hok
            refine ⟨hc5, ?_⟩
            refine pk <| o_app (news := [.int .i64 ev0]) (L := []) hok rfl rfl rfl ((hBl.ext hs5).at (by simp)) (by simp [Value.oneCell']) (by omega) (by omega) fun va w6 hoa ht6 hna => ?_
            have hc6 : Step [] w22 w6 := hc5.then ht6 (fun b hb => .inr (by have := (hgek b hb).1; have := hc0.size; omega))
            have hoa2 := IntsO.snoc (own_base hoa (show w22.heap.size ≤ _ by have := hc0.size; omega))
            have hz6 := ht6.size
            have hBp2 := (hBp.ext (hs4.trans hs5)).step ht6 (fun hb => by have := hgek bp hb; omega)
            refine ⟨hc6, ?_⟩
            have hone := (IntsO.ints (L := []) hoa2 (by simp; omega) (by simp)).one
            have hcel := (IntsO.ints (L := []) hoa2 (by simp; omega) (by simp)).cells
            refine p (fun _ => r_build ⟨rfl, rfl, hcel, trivial⟩) <| ?_
            refine pk <| o_stores (us := [.int .i64 (nxt A.ed ei.e.x ev0), .int .i64 (nxt B.ed ei.e.y ev0), va]) hBp2 rfl rfl rfl rfl ⟨rfl, rfl, hone, trivial⟩ fun wz hsz hBz => ⟨hc6.then1 hsz (by have := hc0.size; omega), pe ?_⟩
            have hna2 : bp ∉ ob va := fun hb => by rcases hna bp hb with h1 | h1; have := hgek bp h1; omega; have := (own_ge hoa bp hb).2; omega
            exact ⟨(bp, va), ⟨rfl, trivial⟩, hc6.then1 hsz (by have := hc0.size; omega), hBz, own_step hoa2 hsz (fun b hb => by simp; exact fun e => hna2 (e ▸ hb)), by have := hc0.size; omega⟩
      · refine ue <| o_lits (us := [[.int .i64 ev0]]) rfl rfl (by decide) (by simp) ⟨rfl, rfl, trivial⟩ fun bl w2 hs2 hbl hBl => ?_
        have hc2 := hc1.trans hs2
        have hz2 := hs2.size
        have hll := hBl.lt
        refine ⟨hc2, ?_⟩
        refine u2 <| pe ⟨?_, ?_⟩
        · refine ue <| xc (first := []) (capt := []) rfl <| (eto_ok (hV.ext hc2) hBs ei.e.y ev0).mono ?_
          rintro r3 w3 ⟨rfl, hs3⟩
          have hc3 := hc2.trans hs3
          have hz3 := hs3.size
          refine ⟨hc3, ?_⟩
          refine u2 <| pe ⟨?_, ?_⟩
          · refine ue <| xf <| (clone_ok (hWd.ext hc3)).mono ?_
            rintro vk w4 ⟨hs4, hok⟩
            have hc4 := hc3.trans hs4
            have hz4 := hs4.size
            have hgek := own_ge hok
            refine ⟨hc4, ?_⟩
            refine u2 <| pe ⟨?_, ?_⟩
            · refine ue <| o_app (news := [.int .i64 ev0]) (L := []) hok rfl rfl rfl ((hBl.ext (hs3.trans hs4)).at (by simp)) (by simp [Value.oneCell']) (by omega) (by omega) fun va w5 hoa ht5 hna => ?_
              have hc5 : Step [] w22 w5 := hc4.then ht5 (fun b hb => .inr (by have := (hgek b hb).1; have := hc0.size; omega))
              have hoa2 := IntsO.snoc (own_base hoa (show w22.heap.size ≤ _ by have := hc0.size; omega))
              have hz5 := ht5.size
              refine ⟨hc5, ?_⟩
              refine uP <| ?_
              have hone := (IntsO.ints (L := []) hoa2 (by simp; omega) (by simp)).one
              have hcel := (IntsO.ints (L := []) hoa2 (by simp; omega) (by simp)).cells
              refine p (fun _ => r_build ⟨rfl, rfl, hcel, trivial⟩) <| ?_
              refine pk <| o_alloc (us := [.int .i64 0, .int .i64 0, .slice none 0 0]) rfl fun bp w6 hs6 hbp hBp => ?_
              have hc6 := hc5.trans hs6
              have hz6 := hs6.size
              have hlp := hBp.lt
              refine ⟨hc6, ?_⟩
              refine pk <| o_stores (us := [.int .i64 (nxt A.ed ei.e.x ev0), .int .i64 (nxt B.ed ei.e.y ev0), va]) hBp rfl rfl rfl rfl ⟨rfl, rfl, hone, trivial⟩ fun wz hsz hBz => ⟨hc6.then1 hsz (by have := hc0.size; omega), pe ?_⟩
              have hna2 : bp ∉ ob va := fun hb => by rcases hna bp hb with h1 | h1; have := hgek bp h1; omega; have := (own_ge hoa bp hb).2; omega
              exact ⟨(bp, va), ⟨rfl, trivial⟩, hc6.then1 hsz (by have := hc0.size; omega), hBz, own_step (own_ext hoa2 hs6) hsz (fun b hb => by simp; exact fun e => hna2 (e ▸ hb)), by have := hc0.size; omega⟩
            · refine ue <| o_alloc (us := [.int .i64 0, .int .i64 0, .slice none 0 0]) rfl fun bp w5 hs5 hbp hBp => ?_
              have hc5 := hc4.trans hs5
              have hz5 := hs5.size
              have hlp := hBp.lt
              refine ⟨hc5, ?_⟩
              refine uP <| ?_
              refine pk <| o_app (news := [.int .i64 ev0]) (L := []) (own_ext hok hs5) rfl rfl rfl ((hBl.ext ((hs3.trans hs4).trans hs5)).at (by simp)) (by simp [Value.oneCell']) (by omega) (by omega) fun va w6 hoa ht6 hna => ?_
              have hc6 : Step [] w22 w6 := hc5.then ht6 (fun b hb => .inr (by have := (hgek b hb).1; have := hc0.size; omega))
              have hoa2 := IntsO.snoc (own_base hoa (show w22.heap.size ≤ _ by have := hc0.size; omega))
              have hz6 := ht6.size
              have hBp2 := hBp.step ht6 (fun hb => by have := hgek bp hb; omega)
              refine ⟨hc6, ?_⟩
              have hone := (IntsO.ints (L := []) hoa2 (by simp; omega) (by simp)).one
              have hcel := (IntsO.ints (L := []) hoa2 (by simp; omega) (by simp)).cells
              refine p (fun _ => r_build ⟨rfl, rfl, hcel, trivial⟩) <| ?_
              refine pk <| o_stores (us := [.int .i64 (nxt A.ed ei.e.x ev0), .int .i64 (nxt B.ed ei.e.y ev0), va]) hBp2 rfl rfl rfl rfl ⟨rfl, rfl, hone, trivial⟩ fun wz hsz hBz => ⟨hc6.then1 hsz (by have := hc0.size; omega), pe ?_⟩
              have hna2 : bp ∉ ob va := fun hb => by rcases hna bp hb with h1 | h1; have := hgek bp h1; omega; have := (own_ge hoa bp hb).2; omega
              exact ⟨(bp, va), ⟨rfl, trivial⟩, hc6.then1 hsz (by have := hc0.size; omega), hBz, own_step hoa2 hsz (fun b hb => by simp; exact fun e => hna2 (e ▸ hb)), by have := hc0.size; omega⟩
          · refine ue <| o_alloc (us := [.int .i64 0, .int .i64 0, .slice none 0 0]) rfl fun bp w4 hs4 hbp hBp => ?_
            have hc4 := hc3.trans hs4
            have hz4 := hs4.size
            have hlp := hBp.lt
            refine ⟨hc4, ?_⟩
            refine uP <| ?_
            refine pk <| xf <| (clone_ok (hWd.ext hc4)).mono ?_
            rintro vk w5 ⟨hs5, hok⟩
            have hc5 := hc4.trans hs5
            have hz5 := hs5.size
            have hgek := own_ge hok
            refine ⟨hc5, ?_⟩
            refine pk <| o_app (news := [.int .i64 ev0]) (L := []) hok rfl rfl rfl ((hBl.ext ((hs3.trans hs4).trans hs5)).at (by simp)) (by simp [Value.oneCell']) (by omega) (by omega) fun va w6 hoa ht6 hna => ?_
            have hc6 : Step [] w22 w6 := hc5.then ht6 (fun b hb => .inr (by have := (hgek b hb).1; have := hc0.size; omega))
            have hoa2 := IntsO.snoc (own_base hoa (show w22.heap.size ≤ _ by have := hc0.size; omega))
            have hz6 := ht6.size
            have hBp2 := (hBp.ext hs5).step ht6 (fun hb => by have := hgek bp hb; omega)
            refine ⟨hc6, ?_⟩
            have hone := (IntsO.ints (L := []) hoa2 (by simp; omega) (by simp)).one
            have hcel := (IntsO.ints (L := []) hoa2 (by simp; omega) (by simp)).cells
            refine p (fun _ => r_build ⟨rfl, rfl, hcel, trivial⟩) <| ?_
            refine pk <| o_stores (us := [.int .i64 (nxt A.ed ei.e.x ev0), .int .i64 (nxt B.ed ei.e.y ev0), va]) hBp2 rfl rfl rfl rfl ⟨rfl, rfl, hone, trivial⟩ fun wz hsz hBz => ⟨hc6.then1 hsz (by have := hc0.size; omega), pe ?_⟩
            have hna2 : bp ∉ ob va := fun hb => by rcases hna bp hb with h1 | h1; have := hgek bp h1; omega; have := (own_ge hoa bp hb).2; omega
            exact ⟨(bp, va), ⟨rfl, trivial⟩, hc6.then1 hsz (by have := hc0.size; omega), hBz, own_step hoa2 hsz (fun b hb => by simp; exact fun e => hna2 (e ▸ hb)), by have := hc0.size; omega⟩
        · refine ue <| o_alloc (us := [.int .i64 0, .int .i64 0, .slice none 0 0]) rfl fun bp w3 hs3 hbp hBp => ?_
          have hc3 := hc2.trans hs3
          have hz3 := hs3.size
          have hlp := hBp.lt
          refine ⟨hc3, ?_⟩
          refine uP <| ?_
          refine pk <| xc (first := []) (capt := []) rfl <| (eto_ok (hV.ext hc3) hBs ei.e.y ev0).mono ?_
          rintro r4 w4 ⟨rfl, hs4⟩
          have hc4 := hc3.trans hs4
          have hz4 := hs4.size
          refine ⟨hc4, ?_⟩
          refine pk <| xf <| (clone_ok (hWd.ext hc4)).mono ?_
          rintro vk w5 ⟨hs5, hok⟩
          have hc5 := hc4.trans hs5
          have hz5 := hs5.size
          have hgek := own_ge hok
          refine ⟨hc5, ?_⟩
          refine pk <| o_app (news := [.int .i64 ev0]) (L := []) hok rfl rfl rfl ((hBl.ext ((hs3.trans hs4).trans hs5)).at (by simp)) (by simp [Value.oneCell']) (by omega) (by omega) fun va w6 hoa ht6 hna => ?_
          have hc6 : Step [] w22 w6 := hc5.then ht6 (fun b hb => .inr (by have := (hgek b hb).1; have := hc0.size; omega))
          have hoa2 := IntsO.snoc (own_base hoa (show w22.heap.size ≤ _ by have := hc0.size; omega))
          have hz6 := ht6.size
          have hBp2 := (hBp.ext (hs4.trans hs5)).step ht6 (fun hb => by have := hgek bp hb; omega)
          refine ⟨hc6, ?_⟩
          have hone := (IntsO.ints (L := []) hoa2 (by simp; omega) (by simp)).one
          have hcel := (IntsO.ints (L := []) hoa2 (by simp; omega) (by simp)).cells
          refine p (fun _ => r_build ⟨rfl, rfl, hcel, trivial⟩) <| ?_
          refine pk <| o_stores (us := [.int .i64 (nxt A.ed ei.e.x ev0), .int .i64 (nxt B.ed ei.e.y ev0), va]) hBp2 rfl rfl rfl rfl ⟨rfl, rfl, hone, trivial⟩ fun wz hsz hBz => ⟨hc6.then1 hsz (by have := hc0.size; omega), pe ?_⟩
          have hna2 : bp ∉ ob va := fun hb => by rcases hna bp hb with h1 | h1; have := hgek bp h1; omega; have := (own_ge hoa bp hb).2; omega
          exact ⟨(bp, va), ⟨rfl, trivial⟩, hc6.then1 hsz (by have := hc0.size; omega), hBz, own_step hoa2 hsz (fun b hb => by simp; exact fun e => hna2 (e ▸ hb)), by have := hc0.size; omega⟩
      · refine ue <| o_alloc (us := [.int .i64 0, .int .i64 0, .slice none 0 0]) rfl fun bp w2 hs2 hbp hBp => ?_
        have hc2 := hc1.trans hs2
        have hz2 := hs2.size
        have hlp := hBp.lt
        refine ⟨hc2, ?_⟩
        refine u2 <| pe ⟨?_, ?_⟩
        · refine ue <| xc (first := []) (capt := []) rfl <| (eto_ok (hV.ext hc2) hBs ei.e.y ev0).mono ?_
          rintro r3 w3 ⟨rfl, hs3⟩
          have hc3 := hc2.trans hs3
          have hz3 := hs3.size
          refine ⟨hc3, ?_⟩
          refine u2 <| pe ⟨?_, ?_⟩
          · refine ue <| xf <| (clone_ok (hWd.ext hc3)).mono ?_
            rintro vk w4 ⟨hs4, hok⟩
            have hc4 := hc3.trans hs4
            have hz4 := hs4.size
            have hgek := own_ge hok
            refine ⟨hc4, ?_⟩
            refine uP <| ?_
            refine pk <| o_lits (us := [[.int .i64 ev0]]) rfl rfl (by decide) (by simp) ⟨rfl, rfl, trivial⟩ fun bl w5 hs5 hbl hBl => ?_
            have hc5 := hc4.trans hs5
            have hz5 := hs5.size
            have hll := hBl.lt
            refine ⟨hc5, ?_⟩
            refine pk <| o_app (news := [.int .i64 ev0]) (L := []) (own_ext hok hs5) rfl rfl rfl (hBl.at (by simp)) (by simp [Value.oneCell']) (by omega) (by omega) fun va w6 hoa ht6 hna => ?_
            have hc6 : Step [] w22 w6 := hc5.then ht6 (fun b hb => .inr (by have := (hgek b hb).1; have := hc0.size; omega))
            have hoa2 := IntsO.snoc (own_base hoa (show w22.heap.size ≤ _ by have := hc0.size; omega))
            have hz6 := ht6.size
            have hBp2 := (hBp.ext ((hs3.trans hs4).trans hs5)).step ht6 (fun hb => by have := hgek bp hb; omega)
            refine ⟨hc6, ?_⟩
            have hone := (IntsO.ints (L := []) hoa2 (by simp; omega) (by simp)).one
            have hcel := (IntsO.ints (L := []) hoa2 (by simp; omega) (by simp)).cells
            refine p (fun _ => r_build ⟨rfl, rfl, hcel, trivial⟩) <| ?_
            refine pk <| o_stores (us := [.int .i64 (nxt A.ed ei.e.x ev0), .int .i64 (nxt B.ed ei.e.y ev0), va]) hBp2 rfl rfl rfl rfl ⟨rfl, rfl, hone, trivial⟩ fun wz hsz hBz => ⟨hc6.then1 hsz (by have := hc0.size; omega), pe ?_⟩
            have hna2 : bp ∉ ob va := fun hb => by rcases hna bp hb with h1 | h1; have := hgek bp h1; omega; have := (own_ge hoa bp hb).2; omega
            exact ⟨(bp, va), ⟨rfl, trivial⟩, hc6.then1 hsz (by have := hc0.size; omega), hBz, own_step hoa2 hsz (fun b hb => by simp; exact fun e => hna2 (e ▸ hb)), by have := hc0.size; omega⟩
          · refine ue <| o_lits (us := [[.int .i64 ev0]]) rfl rfl (by decide) (by simp) ⟨rfl, rfl, trivial⟩ fun bl w4 hs4 hbl hBl => ?_
            have hc4 := hc3.trans hs4
            have hz4 := hs4.size
            have hll := hBl.lt
            refine ⟨hc4, ?_⟩
            refine uP <| ?_
            refine pk <| xf <| (clone_ok (hWd.ext hc4)).mono ?_
            rintro vk w5 ⟨hs5, hok⟩
            have hc5 := hc4.trans hs5
            have hz5 := hs5.size
            have hgek := own_ge hok
            refine ⟨hc5, ?_⟩
            refine pk <| o_app (news := [.int .i64 ev0]) (L := []) hok rfl rfl rfl ((hBl.ext hs5).at (by simp)) (by simp [Value.oneCell']) (by omega) (by omega) fun va w6 hoa ht6 hna => ?_
            have hc6 : Step [] w22 w6 := hc5.then ht6 (fun b hb => .inr (by have := (hgek b hb).1; have := hc0.size; omega))
            have hoa2 := IntsO.snoc (own_base hoa (show w22.heap.size ≤ _ by have := hc0.size; omega))
            have hz6 := ht6.size
            have hBp2 := (hBp.ext ((hs3.trans hs4).trans hs5)).step ht6 (fun hb => by have := hgek bp hb; omega)
            refine ⟨hc6, ?_⟩
            have hone := (IntsO.ints (L := []) hoa2 (by simp; omega) (by simp)).one
            have hcel := (IntsO.ints (L := []) hoa2 (by simp; omega) (by simp)).cells
            refine p (fun _ => r_build ⟨rfl, rfl, hcel, trivial⟩) <| ?_
            refine pk <| o_stores (us := [.int .i64 (nxt A.ed ei.e.x ev0), .int .i64 (nxt B.ed ei.e.y ev0), va]) hBp2 rfl rfl rfl rfl ⟨rfl, rfl, hone, trivial⟩ fun wz hsz hBz => ⟨hc6.then1 hsz (by have := hc0.size; omega), pe ?_⟩
            have hna2 : bp ∉ ob va := fun hb => by rcases hna bp hb with h1 | h1; have := hgek bp h1; omega; have := (own_ge hoa bp hb).2; omega
            exact ⟨(bp, va), ⟨rfl, trivial⟩, hc6.then1 hsz (by have := hc0.size; omega), hBz, own_step hoa2 hsz (fun b hb => by simp; exact fun e => hna2 (e ▸ hb)), by have := hc0.size; omega⟩
        · refine ue <| o_lits (us := [[.int .i64 ev0]]) rfl rfl (by decide) (by simp) ⟨rfl, rfl, trivial⟩ fun bl w3 hs3 hbl hBl => ?_
          have hc3 := hc2.trans hs3
          have hz3 := hs3.size
          have hll := hBl.lt
          refine ⟨hc3, ?_⟩
          refine uP <| ?_
          refine pk <| xc (first := []) (capt := []) rfl <| (eto_ok (hV.ext hc3) hBs ei.e.y ev0).mono ?_
          rintro r4 w4 ⟨rfl, hs4⟩
          have hc4 := hc3.trans hs4
          have hz4 := hs4.size
          refine ⟨hc4, ?_⟩
          refine pk <| xf <| (clone_ok (hWd.ext hc4)).mono ?_
          rintro vk w5 ⟨hs5, hok⟩
          have hc5 := hc4.trans hs5
          have hz5 := hs5.size
          have hgek := own_ge hok
          refine ⟨hc5, ?_⟩
          refine pk <| o_app (news := [.int .i64 ev0]) (L := []) hok rfl rfl rfl ((hBl.ext (hs4.trans hs5)).at (by simp)) (by simp [Value.oneCell']) (by omega) (by omega) fun va w6 hoa ht6 hna => ?_
          have hc6 : Step [] w22 w6 := hc5.then ht6 (fun b hb => .inr (by have := (hgek b hb).1; have := hc0.size; omega))
          have hoa2 := IntsO.snoc (own_base hoa (show w22.heap.size ≤ _ by have := hc0.size; omega))
          have hz6 := ht6.size
          have hBp2 := (hBp.ext ((hs3.trans hs4).trans hs5)).step ht6 (fun hb => by have := hgek bp hb; omega)
          refine ⟨hc6, ?_⟩
          have hone := (IntsO.ints (L := []) hoa2 (by simp; omega) (by simp)).one
          have hcel := (IntsO.ints (L := []) hoa2 (by simp; omega) (by simp)).cells
          refine p (fun _ => r_build ⟨rfl, rfl, hcel, trivial⟩) <| ?_
          refine pk <| o_stores (us := [.int .i64 (nxt A.ed ei.e.x ev0), .int .i64 (nxt B.ed ei.e.y ev0), va]) hBp2 rfl rfl rfl rfl ⟨rfl, rfl, hone, trivial⟩ fun wz hsz hBz => ⟨hc6.then1 hsz (by have := hc0.size; omega), pe ?_⟩
          have hna2 : bp ∉ ob va := fun hb => by rcases hna bp hb with h1 | h1; have := hgek bp h1; omega; have := (own_ge hoa bp hb).2; omega
          exact ⟨(bp, va), ⟨rfl, trivial⟩, hc6.then1 hsz (by have := hc0.size; omega), hBz, own_step hoa2 hsz (fun b hb => by simp; exact fun e => hna2 (e ▸ hb)), by have := hc0.size; omega⟩
    · refine ue <| o_lits (us := [[.int .i64 ev0]]) rfl rfl (by decide) (by simp) ⟨rfl, rfl, trivial⟩ fun bl w1 hs1 hbl hBl => ?_
      have hc1 := hc0.trans hs1
      have hz1 := hs1.size
      have hll := hBl.lt
      refine ⟨hc1, ?_⟩
      refine u2 <| pe ⟨?_, ?_⟩
      · refine ue <| xc (first := []) (capt := []) rfl <| (eto_ok (hU.ext hc1) hAs ei.e.x ev0).mono ?_
        rintro r2 w2 ⟨rfl, hs2⟩
        have hc2 := hc1.trans hs2
        have hz2 := hs2.size
        refine ⟨hc2, ?_⟩
        refine u2 <| pe ⟨?_, ?_⟩
        · refine ue <| xc (first := []) (capt := []) rfl <| (eto_ok (hV.ext hc2) hBs ei.e.y ev0).mono ?_
          rintro r3 w3 ⟨rfl, hs3⟩
          have hc3 := hc2.trans hs3
          have hz3 := hs3.size
          refine ⟨hc3, ?_⟩
          refine u2 <| pe ⟨?_, ?_⟩
          · refine ue <| xf <| (clone_ok (hWd.ext hc3)).mono ?_
            rintro vk w4 ⟨hs4, hok⟩
            have hc4 := hc3.trans hs4
            have hz4 := hs4.size
            have hgek := own_ge hok
            refine ⟨hc4, ?_⟩
            refine u2 <| pe ⟨?_, ?_⟩
            · refine ue <| o_app (news := [.int .i64 ev0]) (L := []) hok rfl rfl rfl ((hBl.ext ((hs2.trans hs3).trans hs4)).at (by simp)) (by simp [Value.oneCell']) (by omega) (by omega) fun va w5 hoa ht5 hna => ?_
              have hc5 : Step [] w22 w5 := hc4.then ht5 (fun b hb => .inr (by have := (hgek b hb).1; have := hc0.size; omega))
              have hoa2 := IntsO.snoc (own_base hoa (show w22.heap.size ≤ _ by have := hc0.size; omega))
              have hz5 := ht5.size
              refine ⟨hc5, ?_⟩
              refine uP <| ?_
              have hone := (IntsO.ints (L := []) hoa2 (by simp; omega) (by simp)).one
              have hcel := (IntsO.ints (L := []) hoa2 (by simp; omega) (by simp)).cells
              refine p (fun _ => r_build ⟨rfl, rfl, hcel, trivial⟩) <| ?_
              refine pk <| o_alloc (us := [.int .i64 0, .int .i64 0, .slice none 0 0]) rfl fun bp w6 hs6 hbp hBp => ?_
              have hc6 := hc5.trans hs6
              have hz6 := hs6.size
              have hlp := hBp.lt
              refine ⟨hc6, ?_⟩
              refine pk <| o_stores (us := [.int .i64 (nxt A.ed ei.e.x ev0), .int .i64 (nxt B.ed ei.e.y ev0), va]) hBp rfl rfl rfl rfl ⟨rfl, rfl, hone, trivial⟩ fun wz hsz hBz => ⟨hc6.then1 hsz (by have := hc0.size; omega), pe ?_⟩
              have hna2 : bp ∉ ob va := fun hb => by rcases hna bp hb with h1 | h1; have := hgek bp h1; omega; have := (own_ge hoa bp hb).2; omega
              exact ⟨(bp, va), ⟨rfl, trivial⟩, hc6.then1 hsz (by have := hc0.size; omega), hBz, own_step (own_ext hoa2 hs6) hsz (fun b hb => by simp; exact fun e => hna2 (e ▸ hb)), by have := hc0.size; omega⟩
            · refine ue <| o_alloc (us := [.int .i64 0, .int .i64 0, .slice none 0 0]) rfl fun bp w5 hs5 hbp hBp => ?_
              have hc5 := hc4.trans hs5
              have hz5 := hs5.size
              have hlp := hBp.lt
              refine ⟨hc5, ?_⟩
              refine uP <| ?_
              refine pk <| o_app (news := [.int .i64 ev0]) (L := []) (own_ext hok hs5) rfl rfl rfl ((hBl.ext (((hs2.trans hs3).trans hs4).trans hs5)).at (by simp)) (by simp [Value.oneCell']) (by omega) (by omega) fun va w6 hoa ht6 hna => ?_
              have hc6 : Step [] w22 w6 := hc5.then ht6 (fun b hb => .inr (by have := (hgek b hb).1; have := hc0.size; omega))
              have hoa2 := IntsO.snoc (own_base hoa (show w22.heap.size ≤ _ by have := hc0.size; omega))
              have hz6 := ht6.size
              have hBp2 := hBp.step ht6 (fun hb => by have := hgek bp hb; omega)
              refine ⟨hc6, ?_⟩
              have hone := (IntsO.ints (L := []) hoa2 (by simp; omega) (by simp)).one
              have hcel := (IntsO.ints (L := []) hoa2 (by simp; omega) (by simp)).cells
              refine p (fun _ => r_build ⟨rfl, rfl, hcel, trivial⟩) <| ?_
              refine pk <| o_stores (us := [.int .i64 (nxt A.ed ei.e.x ev0), .int .i64 (nxt B.ed ei.e.y ev0), va]) hBp2 rfl rfl rfl rfl ⟨rfl, rfl, hone, trivial⟩ fun wz hsz hBz => ⟨hc6.then1 hsz (by have := hc0.size; omega), pe ?_⟩
              have hna2 : bp ∉ ob va := fun hb => by rcases hna bp hb with h1 | h1; have := hgek bp h1; omega; have := (own_ge hoa bp hb).2; omega
              exact ⟨(bp, va), ⟨rfl, trivial⟩, hc6.then1 hsz (by have := hc0.size; omega), hBz, own_step hoa2 hsz (fun b hb => by simp; exact fun e => hna2 (e ▸ hb)), by have := hc0.size; omega⟩
          · refine ue <| o_alloc (us := [.int .i64 0, .int .i64 0, .slice none 0 0]) rfl fun bp w4 hs4 hbp hBp => ?_
            have hc4 := hc3.trans hs4
            have hz4 := hs4.size
            have hlp := hBp.lt
            refine ⟨hc4, ?_⟩
            refine uP <| ?_
            refine pk <| xf <| (clone_ok (hWd.ext hc4)).mono ?_
            rintro vk w5 ⟨hs5, hok⟩
            have hc5 := hc4.trans hs5
            have hz5 := hs5.size
            have hgek := own_ge hok
            refine ⟨hc5, ?_⟩
            refine pk <| o_app (news := [.int .i64 ev0]) (L := []) hok rfl rfl rfl ((hBl.ext (((hs2.trans hs3).trans hs4).trans hs5)).at (by simp)) (by simp [Value.oneCell']) (by omega) (by omega) fun va w6 hoa ht6 hna => ?_
            have hc6 : Step [] w22 w6 := hc5.then ht6 (fun b hb => .inr (by have := (hgek b hb).1; have := hc0.size; omega))
            have hoa2 := IntsO.snoc (own_base hoa (show w22.heap.size ≤ _ by have := hc0.size; omega))
            have hz6 := ht6.size
            have hBp2 := (hBp.ext hs5).step ht6 (fun hb => by have := hgek bp hb; omega)
            refine ⟨hc6, ?_⟩
            have hone := (IntsO.ints (L := []) hoa2 (by simp; omega) (by simp)).one
            have hcel := (IntsO.ints (L := []) hoa2 (by simp; omega) (by simp)).cells
            refine p (fun _ => r_build ⟨rfl, rfl, hcel, trivial⟩) <| ?_
            refine pk <| o_stores (us := [.int .i64 (nxt A.ed ei.e.x ev0), .int .i64 (nxt B.ed ei.e.y ev0), va]) hBp2 rfl rfl rfl rfl ⟨rfl, rfl, hone, trivial⟩ fun wz hsz hBz => ⟨hc6.then1 hsz (by have := hc0.size; omega), pe ?_⟩
            have hna2 : bp ∉ ob va := fun hb => by rcases hna bp hb with h1 | h1; have := hgek bp h1; omega; have := (own_ge hoa bp hb).2; omega
            exact ⟨(bp, va), ⟨rfl, trivial⟩, hc6.then1 hsz (by have := hc0.size; omega), hBz, own_step hoa2 hsz (fun b hb => by simp; exact fun e => hna2 (e ▸ hb)), by have := hc0.size; omega⟩
        · refine ue <| o_alloc (us := [.int .i64 0, .int .i64 0, .slice none 0 0]) rfl fun bp w3 hs3 hbp hBp => ?_
          have hc3 := hc2.trans hs3
          have hz3 := hs3.size
          have hlp := hBp.lt
          refine ⟨hc3, ?_⟩
          refine uP <| ?_
          refine pk <| xc (first := []) (capt := []) rfl <| (eto_ok (hV.ext hc3) hBs ei.e.y ev0).mono ?_
          rintro r4 w4 ⟨rfl, hs4⟩
          have hc4 := hc3.trans hs4
          have hz4 := hs4.size
          refine ⟨hc4, ?_⟩
          refine pk <| xf <| (clone_ok (hWd.ext hc4)).mono ?_
          rintro vk w5 ⟨hs5, hok⟩
          have hc5 := hc4.trans hs5
          have hz5 := hs5.size
          have hgek := own_ge hok
          refine ⟨hc5, ?_⟩
          refine pk <| o_app (news := [.int .i64 ev0]) (L := []) hok rfl rfl rfl ((hBl.ext (((hs2.trans hs3).trans hs4).trans hs5)).at (by simp)) (by simp [Value.oneCell']) (by omega) (by omega) fun va w6 hoa ht6 hna => ?_
          have hc6 : Step [] w22 w6 := hc5.then ht6 (fun b hb => .inr (by have := (hgek b hb).1; have := hc0.size; omega))
          have hoa2 := IntsO.snoc (own_base hoa (show w22.heap.size ≤ _ by have := hc0.size; omega))
          have hz6 := ht6.size
          have hBp2 := (hBp.ext (hs4.trans hs5)).step ht6 (fun hb => by have := hgek bp hb; omega)
          refine ⟨hc6, ?_⟩
          have hone := (IntsO.ints (L := []) hoa2 (by simp; omega) (by simp)).one
          have hcel := (IntsO.ints (L := []) hoa2 (by simp; omega) (by simp)).cells
          refine p (fun _ => r_build ⟨rfl, rfl, hcel, trivial⟩) <| ?_
          refine pk <| o_stores (us := [.int .i64 (nxt A.ed ei.e.x ev0), .int .i64 (nxt B.ed ei.e.y ev0), va]) hBp2 rfl rfl rfl rfl ⟨rfl, rfl, hone, trivial⟩ fun wz hsz hBz => ⟨hc6.then1 hsz (by have := hc0.size; omega), pe ?_⟩
          have hna2 : bp ∉ ob va := fun hb => by rcases hna bp hb with h1 | h1; have := hgek bp h1; omega; have := (own_ge hoa bp hb).2; omega
          exact ⟨(bp, va), ⟨rfl, trivial⟩, hc6.then1 hsz (by have := hc0.size; omega), hBz, own_step hoa2 hsz (fun b hb => by simp; exact fun e => hna2 (e ▸ hb)), by have := hc0.size; omega⟩
      · refine ue <| o_alloc (us := [.int .i64 0, .int .i64 0, .slice none 0 0]) rfl fun bp w2 hs2 hbp hBp => ?_
        have hc2 := hc1.trans hs2
        have hz2 := hs2.size
        have hlp := hBp.lt
        refine ⟨hc2, ?_⟩
        refine uP <| ?_
        refine pk <| xc (first := []) (capt := []) rfl <| (eto_ok (hU.ext hc2) hAs ei.e.x ev0).mono ?_
        rintro r3 w3 ⟨rfl, hs3⟩
        have hc3 := hc2.trans hs3
        have hz3 := hs3.size
        refine ⟨hc3, ?_⟩
        refine pk <| xc (first := []) (capt := []) rfl <| (eto_ok (hV.ext hc3) hBs ei.e.y ev0).mono ?_
        rintro r4 w4 ⟨rfl, hs4⟩
        have hc4 := hc3.trans hs4
        have hz4 := hs4.size
        refine ⟨hc4, ?_⟩
        refine pk <| xf <| (clone_ok (hWd.ext hc4)).mono ?_
        rintro vk w5 ⟨hs5, hok⟩
        have hc5 := hc4.trans hs5
        have hz5 := hs5.size
        have hgek := own_ge hok
        refine ⟨hc5, ?_⟩
        refine pk <| o_app (news := [.int .i64 ev0]) (L := []) hok rfl rfl rfl ((hBl.ext (((hs2.trans hs3).trans hs4).trans hs5)).at (by simp)) (by simp [Value.oneCell']) (by omega) (by omega) fun va w6 hoa ht6 hna => ?_
        have hc6 : Step [] w22 w6 := hc5.then ht6 (fun b hb => .inr (by have := (hgek b hb).1; have := hc0.size; omega))
        have hoa2 := IntsO.snoc (own_base hoa (show w22.heap.size ≤ _ by have := hc0.size; omega))
        have hz6 := ht6.size
        have hBp2 := (hBp.ext ((hs3.trans hs4).trans hs5)).step ht6 (fun hb => by have := hgek bp hb; omega)
        refine ⟨hc6, ?_⟩
        have hone := (IntsO.ints (L := []) hoa2 (by simp; omega) (by simp)).one
        have hcel := (IntsO.ints (L := []) hoa2 (by simp; omega) (by simp)).cells
        refine p (fun _ => r_build ⟨rfl, rfl, hcel, trivial⟩) <| ?_
        refine pk <| o_stores (us := [.int .i64 (nxt A.ed ei.e.x ev0), .int .i64 (nxt B.ed ei.e.y ev0), va]) hBp2 rfl rfl rfl rfl ⟨rfl, rfl, hone, trivial⟩ fun wz hsz hBz => ⟨hc6.then1 hsz (by have := hc0.size; omega), pe ?_⟩
        have hna2 : bp ∉ ob va := fun hb => by rcases hna bp hb with h1 | h1; have := hgek bp h1; omega; have := (own_ge hoa bp hb).2; omega
        exact ⟨(bp, va), ⟨rfl, trivial⟩, hc6.then1 hsz (by have := hc0.size; omega), hBz, own_step hoa2 hsz (fun b hb => by simp; exact fun e => hna2 (e ▸ hb)), by have := hc0.size; omega⟩
    · refine ue <| o_alloc (us := [.int .i64 0, .int .i64 0, .slice none 0 0]) rfl fun bp w1 hs1 hbp hBp => ?_
      have hc1 := hc0.trans hs1
      have hz1 := hs1.size
      have hlp := hBp.lt
      refine ⟨hc1, ?_⟩
      refine u2 <| pe ⟨?_, ?_⟩
      · refine ue <| xc (first := []) (capt := []) rfl <| (eto_ok (hU.ext hc1) hAs ei.e.x ev0).mono ?_
        rintro r2 w2 ⟨rfl, hs2⟩
        have hc2 := hc1.trans hs2
        have hz2 := hs2.size
        refine ⟨hc2, ?_⟩
        refine u2 <| pe ⟨?_, ?_⟩
        · refine ue <| xc (first := []) (capt := []) rfl <| (eto_ok (hV.ext hc2) hBs ei.e.y ev0).mono ?_
          rintro r3 w3 ⟨rfl, hs3⟩
          have hc3 := hc2.trans hs3
          have hz3 := hs3.size
          refine ⟨hc3, ?_⟩
          refine u2 <| pe ⟨?_, ?_⟩
          · refine ue <| xf <| (clone_ok (hWd.ext hc3)).mono ?_
            rintro vk w4 ⟨hs4, hok⟩
            have hc4 := hc3.trans hs4
            have hz4 := hs4.size
            have hgek := own_ge hok
            refine ⟨hc4, ?_⟩
            refine uP <| ?_
            refine pk <| o_lits (us := [[.int .i64 ev0]]) rfl rfl (by decide) (by simp) ⟨rfl, rfl, trivial⟩ fun bl w5 hs5 hbl hBl => ?_
            have hc5 := hc4.trans hs5
            have hz5 := hs5.size
            have hll := hBl.lt
            refine ⟨hc5, ?_⟩
            refine pk <| o_app (news := [.int .i64 ev0]) (L := []) (own_ext hok hs5) rfl rfl rfl (hBl.at (by simp)) (by simp [Value.oneCell']) (by omega) (by omega) fun va w6 hoa ht6 hna => ?_
            have hc6 : Step [] w22 w6 := hc5.then ht6 (fun b hb => .inr (by have := (hgek b hb).1; have := hc0.size; omega))
            have hoa2 := IntsO.snoc (own_base hoa (show w22.heap.size ≤ _ by have := hc0.size; omega))
            have hz6 := ht6.size
            have hBp2 := (hBp.ext (((hs2.trans hs3).trans hs4).trans hs5)).step ht6 (fun hb => by have := hgek bp hb; omega)
            refine ⟨hc6, ?_⟩
            have hone := (IntsO.ints (L := []) hoa2 (by simp; omega) (by simp)).one
            have hcel := (IntsO.ints (L := []) hoa2 (by simp; omega) (by simp)).cells
            refine p (fun _ => r_build ⟨rfl, rfl, hcel, trivial⟩) <| ?_
            refine pk <| o_stores (us := [.int .i64 (nxt A.ed ei.e.x ev0), .int .i64 (nxt B.ed ei.e.y ev0), va]) hBp2 rfl rfl rfl rfl ⟨rfl, rfl, hone, trivial⟩ fun wz hsz hBz => ⟨hc6.then1 hsz (by have := hc0.size; omega), pe ?_⟩
            have hna2 : bp ∉ ob va := fun hb => by rcases hna bp hb with h1 | h1; have := hgek bp h1; omega; have := (own_ge hoa bp hb).2; omega
            exact ⟨(bp, va), ⟨rfl, trivial⟩, hc6.then1 hsz (by have := hc0.size; omega), hBz, own_step hoa2 hsz (fun b hb => by simp; exact fun e => hna2 (e ▸ hb)), by have := hc0.size; omega⟩
          · refine ue <| o_lits (us := [[.int .i64 ev0]]) rfl rfl (by decide) (by simp) ⟨rfl, rfl, trivial⟩ fun bl w4 hs4 hbl hBl => ?_
            have hc4 := hc3.trans hs4
            have hz4 := hs4.size
            have hll := hBl.lt
            refine ⟨hc4, ?_⟩
            refine uP <| ?_
            refine pk <| xf <| (clone_ok (hWd.ext hc4)).mono ?_
            rintro vk w5 ⟨hs5, hok⟩
            have hc5 := hc4.trans hs5
            have hz5 := hs5.size
            have hgek := own_ge hok
            refine ⟨hc5, ?_⟩
            refine pk <| o_app (news := [.int .i64 ev0]) (L := []) hok rfl rfl rfl ((hBl.ext hs5).at (by simp)) (by simp [Value.oneCell']) (by omega) (by omega) fun va w6 hoa ht6 hna => ?_
            have hc6 : Step [] w22 w6 := hc5.then ht6 (fun b hb => .inr (by have := (hgek b hb).1; have := hc0.size; omega))
            have hoa2 := IntsO.snoc (own_base hoa (show w22.heap.size ≤ _ by have := hc0.size; omega))
            have hz6 := ht6.size
            have hBp2 := (hBp.ext (((hs2.trans hs3).trans hs4).trans hs5)).step ht6 (fun hb => by have := hgek bp hb; omega)
            refine ⟨hc6, ?_⟩
            have hone := (IntsO.ints (L := []) hoa2 (by simp; omega) (by simp)).one
            have hcel := (IntsO.ints (L := []) hoa2 (by simp; omega) (by simp)).cells
            refine p (fun _ => r_build ⟨rfl, rfl, hcel, trivial⟩) <| ?_
            refine pk <| o_stores (us := [.int .i64 (nxt A.ed ei.e.x ev0), .int .i64 (nxt B.ed ei.e.y ev0), va]) hBp2 rfl rfl rfl rfl ⟨rfl, rfl, hone, trivial⟩ fun wz hsz hBz => ⟨hc6.then1 hsz (by have := hc0.size; omega), pe ?_⟩
            have hna2 : bp ∉ ob va := fun hb => by rcases hna bp hb with h1 | h1; have := hgek bp h1; omega; have := (own_ge hoa bp hb).2; omega
            exact ⟨(bp, va), ⟨rfl, trivial⟩, hc6.then1 hsz (by have := hc0.size; omega), hBz, own_step hoa2 hsz (fun b hb => by simp; exact fun e => hna2 (e ▸ hb)), by have := hc0.size; omega⟩
        · refine ue <| o_lits (us := [[.int .i64 ev0]]) rfl rfl (by decide) (by simp) ⟨rfl, rfl, trivial⟩ fun bl w3 hs3 hbl hBl => ?_
          have hc3 := hc2.trans hs3
          have hz3 := hs3.size
          have hll := hBl.lt
          refine ⟨hc3, ?_⟩
          refine uP <| ?_
          refine pk <| xc (first := []) (capt := []) rfl <| (eto_ok (hV.ext hc3) hBs ei.e.y ev0).mono ?_
          rintro r4 w4 ⟨rfl, hs4⟩
          have hc4 := hc3.trans hs4
          have hz4 := hs4.size
          refine ⟨hc4, ?_⟩
          refine pk <| xf <| (clone_ok (hWd.ext hc4)).mono ?_
          rintro vk w5 ⟨hs5, hok⟩
          have hc5 := hc4.trans hs5
          have hz5 := hs5.size
          have hgek := own_ge hok
          refine ⟨hc5, ?_⟩
          refine pk <| o_app (news := [.int .i64 ev0]) (L := []) hok rfl rfl rfl ((hBl.ext (hs4.trans hs5)).at (by simp)) (by simp [Value.oneCell']) (by omega) (by omega) fun va w6 hoa ht6 hna => ?_
          have hc6 : Step [] w22 w6 := hc5.then ht6 (fun b hb => .inr (by have := (hgek b hb).1; have := hc0.size; omega))
          have hoa2 := IntsO.snoc (own_base hoa (show w22.heap.size ≤ _ by have := hc0.size; omega))
          have hz6 := ht6.size
          have hBp2 := (hBp.ext (((hs2.trans hs3).trans hs4).trans hs5)).step ht6 (fun hb => by have := hgek bp hb; omega)
          refine ⟨hc6, ?_⟩
          have hone := (IntsO.ints (L := []) hoa2 (by simp; omega) (by simp)).one
          have hcel := (IntsO.ints (L := []) hoa2 (by simp; omega) (by simp)).cells
          refine p (fun _ => r_build ⟨rfl, rfl, hcel, trivial⟩) <| ?_
          refine pk <| o_stores (us := [.int .i64 (nxt A.ed ei.e.x ev0), .int .i64 (nxt B.ed ei.e.y ev0), va]) hBp2 rfl rfl rfl rfl ⟨rfl, rfl, hone, trivial⟩ fun wz hsz hBz => ⟨hc6.then1 hsz (by have := hc0.size; omega), pe ?_⟩
          have hna2 : bp ∉ ob va := fun hb => by rcases hna bp hb with h1 | h1; have := hgek bp h1; omega; have := (own_ge hoa bp hb).2; omega
          exact ⟨(bp, va), ⟨rfl, trivial⟩, hc6.then1 hsz (by have := hc0.size; omega), hBz, own_step hoa2 hsz (fun b hb => by simp; exact fun e => hna2 (e ▸ hb)), by have := hc0.size; omega⟩
      · refine ue <| o_lits (us := [[.int .i64 ev0]]) rfl rfl (by decide) (by simp) ⟨rfl, rfl, trivial⟩ fun bl w2 hs2 hbl hBl => ?_
        have hc2 := hc1.trans hs2
        have hz2 := hs2.size
        have hll := hBl.lt
        refine ⟨hc2, ?_⟩
        refine uP <| ?_
        refine pk <| xc (first := []) (capt := []) rfl <| (eto_ok (hU.ext hc2) hAs ei.e.x ev0).mono ?_
        rintro r3 w3 ⟨rfl, hs3⟩
        have hc3 := hc2.trans hs3
        have hz3 := hs3.size
        refine ⟨hc3, ?_⟩
        refine pk <| xc (first := []) (capt := []) rfl <| (eto_ok (hV.ext hc3) hBs ei.e.y ev0).mono ?_
        rintro r4 w4 ⟨rfl, hs4⟩
        have hc4 := hc3.trans hs4
        have hz4 := hs4.size
        refine ⟨hc4, ?_⟩
        refine pk <| xf <| (clone_ok (hWd.ext hc4)).mono ?_
        rintro vk w5 ⟨hs5, hok⟩
        have hc5 := hc4.trans hs5
        have hz5 := hs5.size
        have hgek := own_ge hok
        refine ⟨hc5, ?_⟩
        refine pk <| o_app (news := [.int .i64 ev0]) (L := []) hok rfl rfl rfl ((hBl.ext ((hs3.trans hs4).trans hs5)).at (by simp)) (by simp [Value.oneCell']) (by omega) (by omega) fun va w6 hoa ht6 hna => ?_
        have hc6 : Step [] w22 w6 := hc5.then ht6 (fun b hb => .inr (by have := (hgek b hb).1; have := hc0.size; omega))
        have hoa2 := IntsO.snoc (own_base hoa (show w22.heap.size ≤ _ by have := hc0.size; omega))
        have hz6 := ht6.size
        have hBp2 := (hBp.ext (((hs2.trans hs3).trans hs4).trans hs5)).step ht6 (fun hb => by have := hgek bp hb; omega)
        refine ⟨hc6, ?_⟩
        have hone := (IntsO.ints (L := []) hoa2 (by simp; omega) (by simp)).one
        have hcel := (IntsO.ints (L := []) hoa2 (by simp; omega) (by simp)).cells
        refine p (fun _ => r_build ⟨rfl, rfl, hcel, trivial⟩) <| ?_
        refine pk <| o_stores (us := [.int .i64 (nxt A.ed ei.e.x ev0), .int .i64 (nxt B.ed ei.e.y ev0), va]) hBp2 rfl rfl rfl rfl ⟨rfl, rfl, hone, trivial⟩ fun wz hsz hBz => ⟨hc6.then1 hsz (by have := hc0.size; omega), pe ?_⟩
        have hna2 : bp ∉ ob va := fun hb => by rcases hna bp hb with h1 | h1; have := hgek bp h1; omega; have := (own_ge hoa bp hb).2; omega
        exact ⟨(bp, va), ⟨rfl, trivial⟩, hc6.then1 hsz (by have := hc0.size; omega), hBz, own_step hoa2 hsz (fun b hb => by simp; exact fun e => hna2 (e ▸ hb)), by have := hc0.size; omega⟩
  rintro ⟨bp, va⟩ g24 w24 ⟨hs24, hBp, hoa, hgp⟩
  simp only [] at hBp hoa hgp
  have hM24 := hM22.ext hs24
  have hnx : enN A B ei.e ev0 = ⟨nxt A.ed ei.e.x ev0, nxt B.ed ei.e.y ev0, ei.e.u ++ [ev0]⟩ := rfl
  have hS : eqS A B ei.e (fs.map (·.e)) ev0 = if (nxt A.ed ei.e.x ev0, nxt B.ed ei.e.y ev0) ≠ ((-1 : Int), (-1 : Int)) ∧ (nxt A.ed ei.e.x ev0, nxt B.ed ei.e.y ev0) ∉ ((fs.map (·.e)).drop 1).map En.ky then fs.map (·.e) ++ [enN A B ei.e ev0] else fs.map (·.e) := by unfold eqS; rw [hnx]; rfl
  have hJs := eqS_I hOA hOB hJ22 (i := i) (by rw [List.length_map]; exact hi) (e := ei.e) (by rw [List.getElem_map, hei]) ev0
  rw [hS] at hr22 hJs
  refine exE (nxt A.ed ei.e.x ev0) fun nx hnxe => exE (nxt B.ed ei.e.y ev0) fun ny hnye => ?_
  rw [hnxe, hnye] at hBp hr22 hJs hnx
  rw [hnx] at hr22 hJs
  refine W_seq <| W_region (by rfl) ?_
  refine x (r_fieldB rfl) <| x (r_loadB hBp rfl rfl) <| x (r_fieldB rfl) <| x (r_loadB hBp rfl rfl) <| x (r_build ⟨rfl, rfl, trivial⟩) <| xl rfl <| o_alloc (us := [.int .i64 0, .int .i64 0]) rfl fun b23 w25 hs25 hb23 hB23 =>
    xl rfl <| o_stores (us := [.int .i64 nx, .int .i64 ny]) hB23 rfl rfl rfl rfl ⟨rfl, rfl, trivial⟩ fun w26 hs26 hB2326 => xe ?_
  have hs2426 : Step [] w24 w26 := hs25.then1 hs26 hb23
  have hM26 := hM24.ext hs2426
  have hBp26 := hBp.ext hs2426
  have hoa26 := own_ext hoa hs2426
  refine Exists.elim hM26.m fun mm hmm => ?_
  have hmm1 := hmm.1
  have hmm2 := hmm.2 (nx, ny)
  refine W_cut (α := Unit) [(118, 126)] (fun z => [(126, .bool (decide ((nx, ny) ≠ ((-1 : Int), (-1 : Int)) ∧ (nx, ny) ∉ ((fs.map (·.e)).drop 1).map En.ky)))]) (fun z w' => w' = w26) (by rfl) ?_ ?_
  · refine W_region (by rfl) ?_
    refine x (r_loadsB hB2326 rfl rfl) <| x (r_build ⟨rfl, rfl, trivial⟩) <| xb (r_neq_pair (p := (nx, ny)) (q := (-1, -1)) rfl rfl) (fun h120 => ?_) (fun h120 => ?_)
    · refine Or.elim (Decidable.em ((nx, ny) ∈ ((fs.map (·.e)).drop 1).map En.ky)) (fun hin => ?_) (fun hin => ?_)
      · rw [if_pos hin] at hmm2
        refine x r_move <| x r_move <| x (r_loadsB hB2326 rfl rfl) <| x (r_lookup1S (k := (nx, ny)) hmm1 rfl rfl hmm2) <| x (r_not rfl) <| x (r_pick rfl) <| xe ?_
        exact ⟨(), ⟨congrArg Value.bool (decide_eq_false (fun a => a.2 hin)).symm, trivial⟩, rfl⟩
      · rw [if_neg hin] at hmm2
        refine x r_move <| x r_move <| x (r_loadsB hB2326 rfl rfl) <| x (r_lookup1N (k := (nx, ny)) hmm1 rfl rfl hmm2) <| x (r_not rfl) <| x (r_pick rfl) <| xe ?_
        exact ⟨(), ⟨congrArg Value.bool (decide_eq_true ⟨h120, hin⟩).symm, trivial⟩, rfl⟩
    refine x r_move <| xs rfl <| xs rfl <| xs rfl <| xs rfl <| x (r_pick rfl) <| xe ?_
    exact ⟨(), ⟨congrArg Value.bool (decide_eq_false (fun a => h120 a.1)).symm, trivial⟩, rfl⟩
  rintro _ g27 w27 rfl
  refine W_ifn rfl (fun h126 => ?_) (fun h126 => ?_)
  · rw [if_neg h126] at hr22
    refine W_skip ?_
    refine W_region (by rfl) ?_
    refine x (r_add rfl rfl ⟨by omega, by omega⟩) <| x r_move <| xe ?_
    exact ⟨(k + 1, vL2, fs), by simp only []; omega, ⟨rfl, rfl, trivial⟩, hklt, hM26, hJ22, ⟨hi, hei⟩, hr22⟩
  rw [if_pos h126] at hr22 hJs
  have hone := (IntsO.ints (L := []) hoa26 (by simp; omega) (by simp)).one
  have hcel := (IntsO.ints (L := []) hoa26 (by simp; omega) (by simp)).cells
  refine W_seq <| W_region (by rfl) ?_
  refine x r_move <| x (r_loadsB hB2326 rfl rfl) <| xl rfl <| o_update (k := (nx, ny)) hmm1 rfl rfl fun w28 hs28 hm28 => xe ?_
  have hltb := hM26.ltb
  have hgp26 : bp < w24.heap.size := hBp.lt
  have hbp59 : bp ≠ b59 := fun e => by have := hM22.ltb; omega
  have hBp28 := hBp26.step hs28 (by simp; exact hbp59)
  refine W_region (by rfl) ?_
  refine x r_move <| x (r_loadsB hBp28 rfl rfl) <| xl rfl <| o_lits (us := [evCells ⟨va, ⟨nx, ny, ei.e.u ++ [ev0]⟩⟩]) rfl rfl (by decide) (by exact (by decide : 1 * 3 ≤ 1000000)) ⟨rfl, rfl, trivial⟩ fun b131 w29 hs29 hb131 hB131 => ?_
  have hl26 := hM26.l
  have hl29 := own_ext (own_step hl26 hs28 (fun b hb => by simp; exact fun e => hM26.nb (e ▸ hb))) hs29
  have hzB : w17.heap.size ≤ w29.heap.size := by have := hM26.st.size; have := hs28.size; have := hs29.size; omega
  refine xl rfl <| o_app (news := evCells ⟨va, ⟨nx, ny, ei.e.u ++ [ev0]⟩⟩) (L := []) (m := 1) hl29 rfl rfl rfl (hB131.at (by simp)) (by intro u hu; simp only [List.mem_cons, List.not_mem_nil, or_false] at hu; rcases hu with rfl | rfl | rfl; rfl; rfl; exact hone) (by omega) hzB fun v30 w30 ho30 hs30 hn30 =>
    x r_assign <| xe ?_
  have hpI : Ints (b59 :: ob vL2) w27.heap va (ei.e.u ++ [ev0]) := IntsO.ints hoa26 (by simp; omega) (fun b hb => by
    rcases List.mem_cons.1 hb with rfl | hb
    · exact hM22.ltb
    · exact own_lt hM22.l b hb)
  have hM30 := hM26.add (p := ⟨va, ⟨nx, ny, ei.e.u ++ [ev0]⟩⟩) (by omega) hs28 hm28 (hmm.2.add (nx, ny)) hs29 hs30 ho30 hn30 hpI
  have hmap : (fs ++ [(⟨va, ⟨nx, ny, ei.e.u ++ [ev0]⟩⟩ : EV)]).map (fun q : EV => q.e) = fs.map (fun q : EV => q.e) ++ [⟨nx, ny, ei.e.u ++ [ev0]⟩] := by simp
  refine W_region (by rfl) ?_
  refine x (r_add rfl rfl ⟨by omega, by omega⟩) <| x r_move <| xe ?_
  exact ⟨(k + 1, v30, fs ++ [⟨va, ⟨nx, ny, ei.e.u ++ [ev0]⟩⟩]), by simp only []; omega, ⟨rfl, rfl, trivial⟩, hklt, hM30, by simp only []; rw [hmap]; exact hJs.1, ⟨by simp; omega, by simp only []; rw [List.getElem_append_left hi]; exact hei⟩, by simp only []; rw [hmap]; exact hr22⟩
end Go.Proofs.YtfhgnlkdcdlblaaGreatDoor
/- Contract: supervisor.After. -/
namespace Go.Proofs.YtfhgnlkdcdlblaaGreatDoor
open Go.Lg

set_option maxHeartbeats 1000000 in
theorem After_ok {L L' : List Nat} {w : World} {pva pvm pve sa sm se vw : Value} {aP aS : Aut} {u : List Int} (hp : AutA L w.heap pva pvm pve aP) (hs : AutA L w.heap sa sm se aS) (hw : Ints L' w.heap vw u) (hst : Okay aP → Okay aS → aP.st ≤ 100 ∧ aS.st ≤ 100) :
    Ret Tryz.prog 21 [.agg #[pva, .int .i64 aP.st, pvm, pve], .agg #[sa, .int .i64 aS.st, sm, se], vw] w fun r w' => Step [] w w' ∧ ∃ v1 v2, r = .tuple #[v1, v2, .int .i64 (afE aP aS u)] ∧ (afE aP aS u ≠ 0 → v1 = nilS ∧ v2 = nilS) ∧
      (afE aP aS u = 0 → IntsO 3 w.heap.size w' v1 (afOn aP aS u) ∧ IntsO 3 w.heap.size w' v2 (afOff aP aS u)) := by
  refine Ret.of_W Tryz.func21 rfl Tryz.ntmps21 Tryz.results21 (by simp) ?_
  refine W_seq <| W_region (by rfl) ?_
  refine xl rfl <| o_box (us := [pva, .int .i64 aP.st, pvm, pve]) rfl fun b3 w1 hs1 hb3 hB3 => xl rfl <| o_box (us := [sa, .int .i64 aS.st, sm, se]) rfl fun b4 w2 hs2 hb4 hB4 => x r_assign <| x r_assign <| x r_assign <| xe ?_
  have hs12 := hs1.trans hs2
  refine W_seq <| W_region (by rfl) ?_
  refine x (r_loadsB (hB3.ext hs2) rfl rfl) <| x (r_loadsB hB4 rfl rfl) <| xl rfl <| xf <| (sopen_ok (hp.ext hs12) (hs.ext hs12) hst).mono ?_
  rintro r3 w3 ⟨hs3, va, vt, rfl, hO⟩
  obtain ⟨us, hva, husl, hus⟩ := hO.shape
  have hs13 := hs12.trans hs3
  refine x r_move <| x (r_extract rfl rfl) <|
    x (r_extract rfl rfl) <| x (r_extract rfl rfl) <| xl rfl <| o_alloc (us := [.slice none 0 0, .int .i64 0, .slice none 0 0, .slice none 0 0]) rfl fun b9 w4 hs4 hb9 hB9 => xl rfl <| o_stores (us := us) hB9 rfl hva husl rfl hus fun w5 hs5 hB95 =>
    x r_assign <| x r_assign <| xe ?_
  have hs35 : Step [] w3 w5 := hs4.then1 hs5 hb9
  have hs15 := hs13.trans hs35
  refine W_seq <| W_seq <| W_region (by rfl) ?_
  refine x r_move <| x (r_neq rfl rfl) <| xe ?_
  unfold afE
  refine W_if rfl (fun h26 => ?_) (fun h26 => ?_)
  · rw [if_pos h26]
    refine W_seq <| W_region (by rfl) ?_
    refine x r_move <| x r_assign <| x r_assign <| x r_assign <| xe ?_
    exact W_ret ⟨[nilS, nilS, _], ⟨rfl, rfl, rfl, trivial⟩, hs15, nilS, nilS, rfl, fun _ => ⟨rfl, rfl⟩, fun e => absurd e h26⟩
  rw [if_neg h26]
  have hE0 : opE aP aS = 0 := Decidable.not_not.1 h26
  obtain ⟨o1, o2, _, hv, hl⟩ := opE_zero hE0
  obtain ⟨hSy, hOA, _⟩ := opE_syP hE0
  obtain ⟨hFA, qs, hqe, hqs⟩ := hO.good hE0
  obtain ⟨ava, avm, ave, rfl, hAA⟩ := hFA
  obtain rfl : us = [ava, .int .i64 (opA aP aS).st, avm, ave] := by simpa using hva.symm
  have hA3 := hAA [] (by simp)
  have hT3 := hqs [] (by simp)
  have hA5 := hA3.ext hs35
  refine W_skip ?_
  refine W_seq <| W_seq <| W_region (by rfl) ?_
  refine x (r_loadsB hB95 rfl rfl) <| x r_move <| xl rfl <| xf <| (Generates_ok hA5 (hw.ext hs15)).mono ?_
  rintro r6 w6 ⟨rfl, hs6⟩
  refine x r_move <| x (r_extract rfl rfl) <|
    x (r_extract rfl rfl) <| x r_assign <| x r_assign <| xe ?_
  have hs16 := hs15.trans hs6
  refine W_seq <| W_region (by rfl) ?_
  refine x r_move <| x (r_not rfl) <| xe ?_
  refine W_cond rfl (fun h35 => ?_) (fun h35 => ?_)
  · have hg : gens (opA aP aS) u = false := by simpa using h35
    rw [if_pos hg]
    refine W_seq <| W_region (by rfl) ?_
    refine x r_assign <| x r_assign <| x r_assign <| xe ?_
    exact W_ret ⟨[nilS, nilS, _], ⟨rfl, rfl, rfl, trivial⟩, hs16, nilS, nilS, rfl, fun _ => ⟨rfl, rfl⟩, fun e => absurd e (by decide)⟩
  have hg : gens (opA aP aS) u = true := by simpa using h35
  rw [if_neg (by rw [hg]; simp)]
  obtain ⟨j, hj, hfl, _⟩ := gens_at hOA hSy hg
  have hst' := hSy.st
  have hat : afAt aP aS u = (j : Int) := by unfold afAt; rw [hfl]
  have hrun := runE_gens hOA (j := j) (by omega) hfl
  have hck : cks (opA aP aS) j = 0 := cks_ok hOA (by omega) (by omega)
  have hB96 := hB95.ext hs6
  have hA6 := hA5.ext hs6
  refine W_skip ?_
  refine W_seq <| W_region (by rfl) ?_
  refine x (r_loadsB hB96 rfl rfl) <| x r_move <| xl rfl <| xf <| (Run_ok hA6 (hw.ext hs16) 0).mono ?_
  rintro r7 w7 ⟨hs7, hr7⟩
  rw [hrun, if_neg (by simp), hfl] at hr7
  subst hr7
  refine x r_move <| x (r_extract rfl rfl) <| x (r_extract rfl rfl) <|
    x (r_extract rfl rfl) <| x r_assign <| x r_assign <| x r_assign <| xe ?_
  have hs17 := hs16.trans hs7
  refine W_seq <| W_region (by rfl) ?_
  refine x (r_loadsB (hB96.ext hs7) rfl rfl) <| x r_move <| xl rfl <| xf <| (Enabled_ok (hA6.ext hs7) j).mono ?_
  rintro r8 w8 ⟨hs8, v8, hr8, _, hg8⟩
  rw [hck] at hr8
  subst hr8
  have ho8 := hg8 hck
  refine x r_move <| x (r_extract rfl rfl) <|
    x (r_extract rfl rfl) <| x r_assign <| xe ?_
  have hs18 := hs17.trans hs8
  have hs28 : Step [] w2 w8 := ((((hs3.trans hs35).trans hs6).trans hs7).trans hs8)
  have hs38 : Step [] w3 w8 := (((hs35.trans hs6).trans hs7).trans hs8)
  have hql : qs.length = (opQ aP aS).length := by rw [← hqe]; simp
  have hjq : j < qs.length := by omega
  have hTj := hT3.each _ (List.getElem_mem hjq)
  have hQj : (opQ aP aS).getD j [] = (qs[j]'hjq).2 := by rw [← hqe]; simp [List.getD, hjq]
  have hVj := hv ((opQ aP aS).getD j []) (by rw [hQj, ← hqe]; exact List.mem_map_of_mem (List.getElem_mem hjq))
  refine Exists.elim (Vt2 hVj) fun xn hV1 => Exists.elim hV1 fun yn hV2 => ?_
  have hxy := hV2.1
  have hx1 := hV2.2.1
  refine exE (qs[j]'hjq) fun qj hqj => ?_
  rw [hqj] at hTj hQj
  have hq2 : qj.2 = [(xn : Int), (yn : Int)] := by rw [← hQj]; exact hxy
  rw [hq2] at hTj
  have hT8 := (hT3.ext hs38).arr
  have hTj8 := hTj.ext hs38
  have hckp : cks aP xn = 0 := cks_ok o1 (by omega) (by omega)
  have hp8 := hp.ext hs18
  have hB38 := (hB3.ext hs2).ext hs28
  refine W_seq <| W_draw (Step [] w8) [(0, true), (1, true), (2, true), (3, true), (4, true), (5, true), (6, true), (7, false), (8, true), (9, true), (10, true), (11, true), (12, true)] Tryz.mixed (by rfl) (by kernel_rfl) (Step.drew _ _) ?_
  refine pq (fun _ hc => r_loadsB (hB38.ext hc) rfl rfl) <| p (fun _ => r_move) <| p (fun _ => r_move) <| Lg.pig (g := tvCells) (i := j) rfl tv_len hT8 rfl rfl hjq fun a53 h53 => ?_
  rw [hqj] at h53
  refine pq (fun _ hc => r_loadA (h53.ext hc) rfl) <| pii (i := 0) rfl hTj8 rfl rfl (by simp) fun a55 h55 => pq (fun _ hc => r_loadA (h55.ext hc) rfl) <| pk <| xf <| (Enabled_ok (hp8.ext (Step.drew [] w8)) xn).mono ?_
  rintro r9 w9 ⟨hs9, v9, hr9, _, hg9⟩
  rw [hckp] at hr9
  subst hr9
  have ho9 := hg9 hckp
  have hs89 := (Step.drew [] w8).trans hs9
  refine ⟨hs89, ?_⟩
  refine p (fun _ => r_move) <| p (fun _ => r_extract rfl rfl) <| p (fun _ => r_extract rfl rfl) <| p (fun _ => r_assign) <| p (fun _ => r_assign) <| pe ?_
  have l8 : (enb (opA aP aS) j).length ≤ 131072 := by unfold enb; rw [List.length_map]; have := outE_len (opA aP aS).ed j; have := hOA.ed_le; omega
  have l9 : (enb aP xn).length ≤ 131072 := by unfold enb; rw [List.length_map]; have := outE_len aP.ed xn; have := o1.ed_le; omega
  have ho89 := own_ext ho8 hs89
  refine W_seq <| W_region (by rfl) ?_
  refine x r_move <| x r_move <| x r_move <| xl rfl <| xf <| (Minus_ok (IntsO.ints (L := []) ho9 (by omega) (by simp)) (IntsO.ints (L := []) ho89 (by omega) (by simp)) (by omega)).mono ?_
  rintro v10 w10 ⟨hs10, ho10⟩
  refine x r_assign <| x r_assign <| x r_assign <| xe ?_
  have hz7 := hs17.size
  have hz9 := (hs18.trans hs89).size
  refine W_ret ⟨[v8, v10, .int .i64 0], ⟨rfl, rfl, rfl, trivial⟩, (hs18.trans hs89).trans hs10, v8, v10, rfl, fun e => absurd rfl e, fun _ => ⟨?_, ?_⟩⟩
  · unfold afOn
    rw [hat]
    exact own_base (own_ext ho89 hs10) hz7
  · unfold afOff afOn
    rw [hat, Int.toNat_natCast, hxy]
    exact own_base ho10 hz9
end Go.Proofs.YtfhgnlkdcdlblaaGreatDoor
/- The function SupervisorErrors returns true. -/
namespace Go.Lg
section
variable {P : Program} {f : Fr} {w : World} {d : Option Nat} {ty : Nat} {ps : String} {af : Array Edge} {gd : Option (Nat × Bool)} {t t' : Nat} {x y : Operand} {k : IntKind} {a b : Int}
theorem r_moveE {v : Value} (h : ev f x = v) : (execOp (ev f) ⟨d, .move x, ty, ps, af, gd⟩).run P w = .ok (.value v) w := by
  rw [← h]; exact r_move
theorem r_eqI (hx : ev f x = .int k a) (hy : ev f y = .int k b) (h : a = b) : (execOp (ev f) ⟨d, .binOp .eql t x y t', ty, ps, af, gd⟩).run P w = .ok (.value (.bool true)) w := by
  rw [r_eql hx hy, decide_eq_true h]
theorem r_neF (hx : ev f x = .int k a) (hy : ev f y = .int k b) (h : a = b) : (execOp (ev f) ⟨d, .binOp .neq t x y t', ty, ps, af, gd⟩).run P w = .ok (.value (.bool false)) w := by
  rw [r_neq hx hy, decide_eq_false (fun e => e h)]
theorem r_neT (hx : ev f x = .int k a) (hy : ev f y = .int k b) (h : a ≠ b) : (execOp (ev f) ⟨d, .binOp .neq t x y t', ty, ps, af, gd⟩).run P w = .ok (.value (.bool true)) w := by
  rw [r_neq hx hy, decide_eq_true h]
theorem r_eqF (hx : ev f x = .int k a) (hy : ev f y = .int k b) (h : a ≠ b) : (execOp (ev f) ⟨d, .binOp .eql t x y t', ty, ps, af, gd⟩).run P w = .ok (.value (.bool false)) w := by
  rw [r_eql hx hy, decide_eq_false h]
end
end Go.Lg
namespace Go.Proofs.YtfhgnlkdcdlblaaGreatDoor
open Go.Lg

theorem few_ok2 {w : World} {n1 c1 n2 c2 n3 c3 : Nat} {a1 a2 a3 : Option Addr} {st : Int} (hA : n1 ≤ 12 → n2 ≤ 12 → n3 ≤ 12 → ∃ a : Aut, a.st = st ∧ AutA [] w.heap (.slice a1 n1 c1) (.slice a2 n2 c2) (.slice a3 n3 c3) a ∧ a.al.length = n1 ∧ a.mr.length = n2 ∧ a.ed.length = n3) :
    Ret Tryz.prog 14 [.agg #[.slice a1 n1 c1, .int .i64 st, .slice a2 n2 c2, .slice a3 n3 c3]] w fun r w' => Step [] w w' ∧
      ((r = .bool true ∧ ∃ a : Aut, a.st = st ∧ AutA [] w.heap (.slice a1 n1 c1) (.slice a2 n2 c2) (.slice a3 n3 c3) a ∧ fewP a) ∨ r = .bool false) :=
  (few_ok hA).mono fun r w' h => by
    obtain ⟨hs, c, hr, hc⟩ := h
    cases c with
    | true => exact ⟨hs, .inl ⟨hr, hc rfl⟩⟩
    | false => exact ⟨hs, .inr hr⟩
/-- What is known of an automaton that is handed over. -/
def ArgA (w : World) (v : Value) : Prop := ∃ a1 n1 c1 st a2 n2 c2 a3 n3 c3, v = .agg #[.slice a1 n1 c1, .int .i64 st, .slice a2 n2 c2, .slice a3 n3 c3] ∧
  (n1 ≤ 12 → n2 ≤ 12 → n3 ≤ 12 → ∃ a : Aut, a.st = st ∧ AutA [] w.heap (.slice a1 n1 c1) (.slice a2 n2 c2) (.slice a3 n3 c3) a ∧ a.al.length = n1 ∧ a.mr.length = n2 ∧ a.ed.length = n3)
def ArgL (w : World) (v : Value) : Prop := ∃ a n c, v = .slice a n c ∧ (n ≤ 12 → ∃ u : List Int, u.length = n ∧ Ints [] w.heap (.slice a n c) u)
set_option maxRecDepth 100000 in
set_option maxHeartbeats 8000000 in
theorem lawErrors_ok {w : World} {vp vs v0 v1 : Value} (hp : ArgA w vp) (hs : ArgA w vs) (h0 : ArgL w v0) (h1 : ArgL w v1) :
    Ret Tryz.prog 4 [vp, vs, .agg #[v0, v1]] w fun r w' => r = .bool true ∧ Step [] w w' := by
  obtain ⟨pa1, pn1, pc1, pst, pa2, pn2, pc2, pa3, pn3, pc3, rfl, hpA⟩ := hp
  obtain ⟨sa1, sn1, sc1, sst, sa2, sn2, sc2, sa3, sn3, sc3, rfl, hsA⟩ := hs
  obtain ⟨la0, ln0, lc0, rfl, hl0⟩ := h0
  obtain ⟨la1, ln1, lc1, rfl, hl1⟩ := h1
  refine Ret.of_W Tryz.func4 rfl Tryz.ntmps4 Tryz.results4 (by simp) ?_
  refine W_seq <| W_region (by rfl) ?_
  refine xl rfl <| o_box (us := [.slice pa1 pn1 pc1, .int .i64 pst, .slice pa2 pn2 pc2, .slice pa3 pn3 pc3]) rfl fun b3 w1 hs1 hb3 hB3 => xl rfl <| o_box (us := [.slice sa1 sn1 sc1, .int .i64 sst, .slice sa2 sn2 sc2, .slice sa3 sn3 sc3]) rfl fun b4 w2 hs2 hb4 hB4 =>
    xl rfl <| o_box (us := [.slice la0 ln0 lc0, .slice la1 ln1 lc1]) rfl fun b5 w3 hs3 hb5 hB5 => x r_assign <| xe ?_
  have hW3 := (hs1.trans hs2).trans hs3
  have hB33 := (hB3.ext hs2).ext hs3
  have hB43 := hB4.ext hs3
  have up : ∀ {w4 : World}, Step [] w w4 → ∀ {n1 c1 n2 c2 n3 c3 : Nat} {a1 a2 a3 : Option Addr} {st : Int}, (n1 ≤ 12 → n2 ≤ 12 → n3 ≤ 12 → ∃ a : Aut, a.st = st ∧ AutA [] w.heap (.slice a1 n1 c1) (.slice a2 n2 c2) (.slice a3 n3 c3) a ∧ a.al.length = n1 ∧ a.mr.length = n2 ∧ a.ed.length = n3) →
      (n1 ≤ 12 → n2 ≤ 12 → n3 ≤ 12 → ∃ a : Aut, a.st = st ∧ AutA [] w4.heap (.slice a1 n1 c1) (.slice a2 n2 c2) (.slice a3 n3 c3) a ∧ a.al.length = n1 ∧ a.mr.length = n2 ∧ a.ed.length = n3) := fun hs _ _ _ _ _ _ _ _ _ _ h g1 g2 g3 => by
    obtain ⟨a, h1, h2, h3⟩ := h g1 g2 g3
    exact ⟨a, h1, h2.ext hs, h3⟩
  refine W_seq <| W_cut (α := Bool) [(29, 52)] (fun z => [(52, .bool z)])
    (fun z w' => Step [] w3 w' ∧ (z = false → (∃ a : Aut, a.st = pst ∧ AutA [] w'.heap (.slice pa1 pn1 pc1) (.slice pa2 pn2 pc2) (.slice pa3 pn3 pc3) a ∧ fewP a) ∧ (∃ a : Aut, a.st = sst ∧ AutA [] w'.heap (.slice sa1 sn1 sc1) (.slice sa2 sn2 sc2) (.slice sa3 sn3 sc3) a ∧ fewP a) ∧ ln0 ≤ 12 ∧ ln1 ≤ 12)) (by rfl) ?_ ?_
  · refine W_region (by rfl) ?_
    refine xl rfl <| xf <| (known_ok _).mono ?_
    rintro r4 w4 ⟨rfl, hs4⟩
    have hW4 := hW3.trans hs4
    refine x (r_not rfl) <| x r_move <| x (r_loadsB (hB33.ext hs4) rfl rfl) <| xl rfl <| xf <| (few_ok2 (up hW4 hpA)).mono ?_
    rintro r5 w5 ⟨hs5, hc⟩
    have hs35 := hs4.trans hs5
    refine Or.elim hc (fun hc => ?_) (fun hc => ?_)
    · have hr := hc.1
      subst hr
      refine x (r_not rfl) <| x (r_pick rfl) <| x r_move <| x (r_loadsB (hB43.ext hs35) rfl rfl) <| xl rfl <| xf <| (few_ok2 (up (hW3.trans hs35) hsA)).mono ?_
      rintro r6 w6 ⟨hs6, hc2⟩
      have hs36 := hs35.trans hs6
      refine Or.elim hc2 (fun hc2 => ?_) (fun hc2 => ?_)
      · have hr := hc2.1
        subst hr
        refine x (r_not rfl) <| x (r_pick rfl) <| x r_move <| x (r_indexR (i := 0) rfl rfl (by decide)) <| x (r_loadB (hB5.ext hs36) rfl rfl) <| x (r_len rfl) <| xb (r_gtr rfl rfl) (fun h45 => ?_) (fun h45 => ?_)
        · refine x (r_pick rfl) <| x r_move <| xs rfl <| xs rfl <| xs rfl <| xs rfl <| x (r_pick rfl) <| xe ?_
          exact ⟨true, ⟨rfl, trivial⟩, hs36, fun h => by cases h⟩
        refine x (r_pick rfl) <| x r_move <| x (r_indexR (i := 1) rfl rfl (by decide)) <| x (r_loadB (hB5.ext hs36) rfl rfl) <| x (r_len rfl) <| x (r_gtr rfl rfl) <| x (r_pick rfl) <| xe ?_
        refine ⟨decide ((ln1 : Int) > 12), ⟨rfl, trivial⟩, hs36, fun h => ⟨?_, ?_, ?_, ?_⟩⟩
        · obtain ⟨a, e1, e2, e3⟩ := hc.2
          exact ⟨a, e1, e2.ext (hs5.trans hs6), e3⟩
        · obtain ⟨a, e1, e2, e3⟩ := hc2.2
          exact ⟨a, e1, e2.ext hs6, e3⟩
        · have h46 : ¬ (ln0 : Int) > 12 := h45
          omega
        · have h47 := of_decide_eq_false h
          omega
      · subst hc2
        refine x (r_not rfl) <| x (r_pick rfl) <| x r_move <| xs rfl <| xs rfl <| xs rfl <| xs rfl <| x (r_pick rfl) <| x r_move <| xs rfl <| xs rfl <| xs rfl <| xs rfl <| x (r_pick rfl) <| xe ?_
        exact ⟨true, ⟨rfl, trivial⟩, hs36, fun h => by cases h⟩
    · subst hc
      refine x (r_not rfl) <| x (r_pick rfl) <| x r_move <| xs rfl <| xs rfl <| xs rfl <| x (r_pick rfl) <| x r_move <| xs rfl <| xs rfl <| xs rfl <| xs rfl <| x (r_pick rfl) <| x r_move <| xs rfl <| xs rfl <| xs rfl <| xs rfl <| x (r_pick rfl) <| xe ?_
      exact ⟨true, ⟨rfl, trivial⟩, hs35, fun h => by cases h⟩
  rintro z g w4 ⟨hs4, hz⟩
  refine W_cond rfl (fun h52 => ?_) (fun h52 => ?_)
  · refine W_seq <| W_region (by rfl) ?_
    refine xl rfl <| xf <| (known_ok _).mono ?_
    rintro r5 w5 ⟨rfl, hs5⟩
    refine x r_assign <| xe ?_
    exact W_ret ⟨[_], ⟨rfl, trivial⟩, rfl, (hW3.trans hs4).trans hs5⟩
  refine W_skip ?_
  obtain ⟨⟨aP, rfl, hP, fP⟩, ⟨aS, rfl, hS, fS⟩, hn0, hn1⟩ := hz h52
  have hW4 := hW3.trans hs4
  have hB34 := hB33.ext hs4
  have hB44 := hB43.ext hs4
  have hB54 := hB5.ext hs4
  have lP := fP.1
  have lS := fS.1
  have hst := few_st fP fS
  have hEC := opE_few fP fS
  refine W_seq <| W_region (by rfl) ?_
  refine x (r_loadsB hB34 rfl rfl) <| xl rfl <| xf <| (check_ok hP).mono ?_
  rintro r5 w5 ⟨rfl, hs5⟩
  refine x r_assign <| xe ?_
  refine W_cut (α := Unit) [(7, 7), (56, 59)] (fun _ => [(7, .int .i64 (if ckA aP = 0 then ckA aS else ckA aP))]) (fun _ w' => Step [] w4 w') (by rfl) ?_ ?_
  · refine W_seq <| W_region (by rfl) ?_
    refine x r_move <| x (r_eql rfl rfl) <| xe ?_
    refine W_if rfl (fun h57 => ?_) (fun h57 => ?_)
    · refine W_region (by rfl) ?_
      refine x (r_loadsB (hB44.ext hs5) rfl rfl) <| xl rfl <| xf <| (check_ok (hS.ext hs5)).mono ?_
      rintro r6 w6 ⟨rfl, hs6⟩
      refine x r_assign <| xe ?_
      exact ⟨(), ⟨by rw [if_pos h57]; rfl, trivial⟩, hs5.trans hs6⟩
    · refine W_skip ?_
      exact ⟨(), ⟨by rw [if_neg h57]; rfl, trivial⟩, hs5⟩
  rintro _ g w6 hs6
  refine W_cut (α := Unit) [(7, 7), (60, 69)] (fun _ => [(7, .int .i64 (opC aP aS))]) (fun _ w' => Step [] w4 w') (by rfl) ?_ ?_
  · refine W_seq <| W_region (by rfl) ?_
    refine x r_move <| xb (r_eql rfl rfl) (fun h61 => ?_) (fun h61 => ?_)
    · have h62 : (if ckA aP = 0 then ckA aS else ckA aP) = 0 := h61
      have hc : ckA aP = 0 ∧ ckA aS = 0 := by
        by_cases e : ckA aP = 0
        · rw [if_pos e] at h62; exact ⟨e, h62⟩
        · rw [if_neg e] at h62; exact absurd h62 e
      refine x r_move <| x (r_fieldB rfl) <| x (r_loadB (hB44.ext hs6) rfl rfl) <| x (r_fieldB rfl) <| x (r_loadB (hB34.ext hs6) rfl rfl) <| xl rfl <| xf <| (Subset_ok (hS.al.ext hs6) (hP.al.ext hs6) (by omega)).mono ?_
      rintro r7 w7 ⟨hs7, rfl⟩
      refine x (r_not rfl) <| x (r_pick rfl) <| xe ?_
      refine W_cond rfl (fun h69 => ?_) (fun h69 => ?_)
      · refine W_region (by rfl) ?_
        refine x r_assign <| xe ?_
        have hne : ¬ mrg (fun p q => p && !q) aS.al aP.al = [] := by simpa using h69
        have hoc : opC aP aS = 9 := by unfold opC; rw [if_neg (by simp [hc.1]), if_neg (by simp [hc.2]), if_neg hne]
        exact ⟨(), ⟨congrArg (Value.int .i64) hoc.symm, trivial⟩, hs6.trans hs7⟩
      · refine W_skip ?_
        have heq : mrg (fun p q => p && !q) aS.al aP.al = [] := by simpa using h69
        have hoc : opC aP aS = 0 := by unfold opC; rw [if_neg (by simp [hc.1]), if_neg (by simp [hc.2]), if_pos heq]
        exact ⟨(), ⟨congrArg (Value.int .i64) (h62.trans hoc.symm), trivial⟩, hs6.trans hs7⟩
    · refine x r_move <| xs rfl <| xs rfl <| xs rfl <| xs rfl <| xs rfl <| xs rfl <| x (r_pick rfl) <| xe ?_
      refine W_false rfl <| W_skip ?_
      have h62 : ¬ (if ckA aP = 0 then ckA aS else ckA aP) = 0 := h61
      have : opC aP aS = if ckA aP = 0 then ckA aS else ckA aP := by
        unfold opC
        by_cases e : ckA aP = 0
        · rw [if_pos e] at h62 ⊢
          rw [if_neg (by simp [e]), if_pos h62]
        · rw [if_pos e, if_neg e]
      exact ⟨(), ⟨congrArg (Value.int .i64) this.symm, trivial⟩, hs6⟩
  rintro _ g w7 hs7
  have hP7 := hP.ext hs7
  have hS7 := hS.ext hs7
  have hB37 := hB34.ext hs7
  have hB47 := hB44.ext hs7
  have hB57 := hB54.ext hs7
  refine Exists.elim (hl0 hn0) fun u hu => Exists.elim (hl1 hn1) fun v hv => ?_
  have hU := (hu.2.ext hW4).ext hs7
  have hV := (hv.2.ext hW4).ext hs7
  have hW7 := hW4.trans hs7
  refine Or.elim (Decidable.em (opC aP aS = 0)) (fun hC => ?_) (fun hC => ?_)
  · have hE : opE aP aS = 0 := by rw [hEC]; exact hC
    have hrd : rdE aP aS = 0 := (red_law hE).e0
    obtain ⟨_, oA, _⟩ := opE_syP hE
    have hckA : ckA (opA aP aS) = 0 := (ckA_zero _).2 oA
    have hq := eqv_self (opA aP aS) aP.al
    have f4 : (cfm aP aS v).2.2.2 = ckS 32 none v := by
      unfold cfm
      rw [if_neg (by simp [hE])]
      split
      · rfl
      · rename_i h
        have h' : ckS 32 none v = 0 := Decidable.not_not.1 h
        rw [h']
        split
        · rfl
        · split <;> rfl
    have fk : ckS 32 none v ≠ 0 → (cfm aP aS v).1 = 0 ∧ (((cfm aP aS v).2.1.length : Nat) : Int) = 0 ∧ (cfm aP aS v).2.2.1 = 0 := fun h => by
      have : cfm aP aS v = (0, [], 0, ckS 32 none v) := by unfold cfm; rw [if_neg (by simp [hE]), if_pos h]
      rw [this]; exact ⟨rfl, rfl, rfl⟩
    have hcl := cfm_len (aP := aP) (aS := aS) v
    refine W_seq <| W_region (by rfl) ?_
    refine x (r_loadsB hB37 rfl rfl) <| x (r_loadsB hB47 rfl rfl) <| xl rfl <| xf <| (Loop_ok hP7 hS7 hst).mono ?_
    rintro r8 w8 ⟨hs8, va, rfl, _, hgd⟩
    obtain ⟨qa, qm, qe, rfl, hAF⟩ := hgd hE
    have hA8 := hAF [] (by simp)
    refine x r_move <| x (r_extract rfl rfl) <| x (r_extract rfl rfl) <| xl rfl <| o_alloc (us := [.slice none 0 0, .int .i64 0, .slice none 0 0, .slice none 0 0]) rfl fun b8 w9 hs9 hb8 hB8 => xl rfl <| o_stores (us := [qa, .int .i64 (opA aP aS).st, qm, qe]) hB8 rfl rfl rfl rfl ⟨hA8.al.one, rfl, hA8.mr.one, hA8.ed.one, trivial⟩ fun w10 hs10 hB8' => x r_assign <| xe ?_
    have hs810 : Step [] w8 w10 := hs9.then1 hs10 hb8
    have hs710 : Step [] w7 w10 := hs8.trans hs810
    refine W_seq <| W_region (by rfl) ?_
    refine x (r_loadsB (hB37.ext hs710) rfl rfl) <| x (r_loadsB (hB47.ext hs710) rfl rfl) <| xl rfl <| xf <| (Map_ok (hP7.ext hs710) (hS7.ext hs710) hst).mono ?_
    rintro r11 w11 ⟨hs11, vl, rfl, _, _⟩
    have hs711 := hs710.trans hs11
    refine x r_move <| x (r_extract rfl rfl) <| x (r_extract rfl rfl) <| x r_assign <| x r_assign <| xe ?_
    refine W_seq <| W_region (by rfl) ?_
    refine x (r_loadsB (hB37.ext hs711) rfl rfl) <| x (r_loadsB (hB47.ext hs711) rfl rfl) <| xl rfl <| xf <| (Classes_ok (hP7.ext hs711) (hS7.ext hs711) hst).mono ?_
    rintro r12 w12 ⟨hs12, vc, rfl, _, _⟩
    have hs712 := hs711.trans hs12
    refine x r_move <| x (r_extract rfl rfl) <| x (r_extract rfl rfl) <| x r_assign <| x r_assign <| xe ?_
    refine W_seq <| W_region (by rfl) ?_
    refine x (r_loadsB (hB37.ext hs712) rfl rfl) <| x (r_loadsB (hB47.ext hs712) rfl rfl) <| xl rfl <| xf <| (Reduce_ok (hP7.ext hs712) (hS7.ext hs712) hst).mono ?_
    rintro r13 w13 ⟨hs13, vr, rfl, _, hgr⟩
    obtain ⟨ra, rm, re, rfl, hRF⟩ := hgr hrd
    have hR13 := hRF [] (by simp)
    refine x r_move <| x (r_extract rfl rfl) <| x (r_extract rfl rfl) <| xl rfl <| o_alloc (us := [.slice none 0 0, .int .i64 0, .slice none 0 0, .slice none 0 0]) rfl fun b14 w14 hs14 hb14 hB14 => xl rfl <| o_stores (us := [ra, .int .i64 (rdA aP aS).st, rm, re]) hB14 rfl rfl rfl rfl ⟨hR13.al.one, rfl, hR13.mr.one, hR13.ed.one, trivial⟩ fun w15 hs15 hB14' => x r_assign <| xe ?_
    have hs1015 : Step [] w10 w15 := (hs11.trans hs12).trans (hs13.trans (hs14.then1 hs15 hb14))
    have hs715 := hs710.trans hs1015
    refine W_seq <| W_region (by rfl) ?_
    refine x (r_loadsB (hB37.ext hs715) rfl rfl) <| x (r_loadsB (hB47.ext hs715) rfl rfl) <| x (r_loadsB (hB47.ext hs715) rfl rfl) <| xl rfl <| xf <| (Equivalent_ok (hP7.ext hs715) (hS7.ext hs715) (hS7.ext hs715) hst hst hE hE).mono ?_
    rintro r16 w16 ⟨hs16, hr16⟩
    rw [hq] at hr16
    subst hr16
    have hs716 := hs715.trans hs16
    refine x r_move <| x (r_extract rfl rfl) <| x (r_extract rfl rfl) <| x (r_extract rfl rfl) <| x r_assign <| x r_assign <| x r_assign <| xe ?_
    refine W_seq <| W_region (by rfl) ?_
    refine x (r_loadsB (hB37.ext hs716) rfl rfl) <| x (r_loadsB (hB47.ext hs716) rfl rfl) <| x (r_indexR (i := 0) rfl rfl (by decide)) <| x (r_loadB (hB57.ext hs716) rfl rfl) <| xl rfl <| xf <| (After_ok (hP7.ext hs716) (hS7.ext hs716) (hU.ext hs716) hst).mono ?_
    rintro r17 w17 ⟨hs17, vx, vy, rfl, hbad, _⟩
    have hs717 := hs716.trans hs17
    refine x r_move <| x (r_extract rfl rfl) <| x (r_extract rfl rfl) <| x (r_extract rfl rfl) <| x r_assign <| x r_assign <| x r_assign <| xe ?_
    refine W_seq <| W_region (by rfl) ?_
    refine x (r_loadsB (hB37.ext hs717) rfl rfl) <| x (r_loadsB (hB47.ext hs717) rfl rfl) <| x (r_indexR (i := 1) rfl rfl (by decide)) <| x (r_loadB (hB57.ext hs717) rfl rfl) <| xl rfl <| xf <| (Conforms_ok (hP7.ext hs717) (hS7.ext hs717) (hV.ext hs717) hst).mono ?_
    rintro r18 w18 ⟨hs18, vv, rfl, hvv⟩
    have hVV : Ints [] w18.heap vv (cfm aP aS v).2.1 := own_arr hvv (by omega) (by simp)
    have hs718 := hs717.trans hs18
    have hW18 := hW7.trans hs718
    refine x r_move <| x (r_extract rfl rfl) <| x (r_extract rfl rfl) <| x (r_extract rfl rfl) <| x (r_extract rfl rfl) <| x r_assign <| x r_assign <| x r_assign <| x r_assign <| xe ?_
    refine W_seq <| W_seq <| W_region (by rfl) ?_
    refine x r_move <| x (r_neF rfl rfl hC) <| xe ?_
    refine W_false rfl <| W_skip ?_
    refine W_seq <| W_seq <| W_region (by rfl) ?_
    refine x r_move <| x (r_neF rfl rfl hE) <| x r_move <| x r_move <| x (r_neF rfl rfl hE) <| x (r_pick rfl) <| x r_move <| x r_move <| x (r_neF rfl rfl hE) <| x (r_pick rfl) <| x r_move <| x r_move <| x (r_neF rfl rfl hrd) <| x (r_pick rfl) <| x r_move <| x r_move <| x (r_neF rfl rfl rfl) <| x (r_pick rfl) <|
      x r_move <| x r_move <| x (r_not rfl) <| x (r_pick rfl) <| xe ?_
    refine W_false rfl <| W_skip ?_
    have hs1018 := (hs1015.trans hs16).trans (hs17.trans hs18)
    have hB818 := hB8'.ext hs1018
    have hA18 := (hA8.ext hs810).ext hs1018
    refine W_seq <| W_seq <| W_region (by rfl) ?_
    refine x (r_loadsB hB818 rfl rfl) <| x (r_indexR (i := 0) rfl rfl (by decide)) <| x (r_loadB (hB57.ext hs718) rfl rfl) <| xl rfl <| xf <| (Generates_ok hA18 (hU.ext hs718)).mono ?_
    rintro r19 w19 ⟨rfl, hs19⟩
    refine x r_move <| x (r_extract rfl rfl) <| x (r_extract rfl rfl) <| x r_assign <| x r_assign <| xe ?_
    refine W_cut (α := Unit) [(233, 257)] (fun _ => [(257, .bool false)]) (fun _ w' => Step [] w18 w') (by rfl) ?_ ?_
    · refine W_region (by rfl) ?_
      refine Or.elim (Bool.eq_false_or_eq_true (gens (opA aP aS) u)) (fun g => ?_) (fun g => ?_)
      · have haf : afE aP aS u = 0 := by unfold afE; rw [if_neg (by simp [hE]), if_neg (by simp [g])]
        refine x r_move <| x (r_neF rfl rfl hckA) <| x r_move <| x (r_moveE (congrArg Value.bool g)) <| x (r_not rfl) <| x r_move <| xs rfl <| xs rfl <| xs rfl <| xs rfl <| xs rfl <| xs rfl <| xs rfl <| xs rfl <| xs rfl <| xs rfl <| x (r_pick rfl) <| x (r_pick rfl) <|
          x r_move <| x (r_moveE (congrArg Value.bool g)) <| x r_move <| x r_move <| x (r_neF rfl rfl haf) <| x (r_pick rfl) <| x (r_pick rfl) <| xe ?_
        exact ⟨(), ⟨rfl, trivial⟩, hs19⟩
      · have haf : afE aP aS u = 10 := by unfold afE; rw [if_neg (by simp [hE]), if_pos g]
        have hvn := hbad (by rw [haf]; decide)
        have e1 := hvn.1
        have e2 := hvn.2
        refine x r_move <| x (r_neF rfl rfl hckA) <| x r_move <| x (r_moveE (congrArg Value.bool g)) <| x (r_not rfl) <| x r_move <| x r_move <| x (r_neF rfl rfl haf) <| x r_move <| x (r_moveE e1) <| x (r_len rfl) <| x (r_moveE e2) <| x (r_len rfl) <| x (r_add rfl rfl ⟨by decide, by decide⟩) <| x (r_neF rfl rfl rfl) <| x (r_pick rfl) <| x (r_pick rfl) <| x (r_pick rfl) <|
          x r_move <| x (r_moveE (congrArg Value.bool g)) <| x r_move <| xs rfl <| xs rfl <| x (r_pick rfl) <| x (r_pick rfl) <| xe ?_
        exact ⟨(), ⟨rfl, trivial⟩, hs19⟩
    rintro _ g20 w20 hs20
    refine W_false rfl <| W_skip ?_
    have hs720 := hs718.trans hs20
    refine W_seq <| W_region (by rfl) ?_
    refine x (r_indexR (i := 1) rfl rfl (by decide)) <| x (r_loadB (hB57.ext hs720) rfl rfl) <| xl rfl <| xf <| (CheckSet_ok (hV.ext hs720) 32).mono ?_
    rintro r21 w21 ⟨rfl, rfl⟩
    refine x r_assign <| xe ?_
    refine W_seq <| W_region (by rfl) ?_
    refine x r_move <| x r_move <| x (r_eqI rfl rfl f4) <| x r_move <| x r_move <| xb (r_eql rfl rfl) (fun h266 => ?_) (fun h266 => ?_)
    · refine x r_move <| xs rfl <| xs rfl <| xs rfl <| xs rfl <| xs rfl <| xs rfl <| xs rfl <| xs rfl <| xs rfl <| xs rfl <| xs rfl <| x (r_pick rfl) <| x (r_pick rfl) <| x r_assign <| xe ?_
      exact W_ret ⟨[_], ⟨rfl, trivial⟩, rfl, hW7.trans hs720⟩
    have hf := fk h266
    refine x r_move <| x r_move <| x (r_eqI rfl rfl hf.1) <| x r_move <| x r_move <| x (r_lenA (hVV.ext hs20) rfl) <| x (r_eqI rfl rfl hf.2.1) <| x (r_pick rfl) <| x r_move <| x r_move <| x (r_eqI rfl rfl hf.2.2) <| x (r_pick rfl) <| x (r_pick rfl) <| x (r_pick rfl) <| x r_assign <| xe ?_
    exact W_ret ⟨[_], ⟨rfl, trivial⟩, rfl, hW7.trans hs720⟩
  · have hE : opE aP aS ≠ 0 := by rw [hEC]; exact hC
    have hrd : rdE aP aS = opE aP aS := by unfold rdE; rw [if_pos hE]
    have haf : afE aP aS u = opE aP aS := by unfold afE; rw [if_pos hE]
    have hcf : cfm aP aS v = (0, [], 0, opE aP aS) := by unfold cfm; rw [if_pos hE]
    have f1 : (cfm aP aS v).1 = 0 := by rw [hcf]
    have f2 : (((cfm aP aS v).2.1.length : Nat) : Int) = 0 := by rw [hcf]; rfl
    have f3 : (cfm aP aS v).2.2.1 = 0 := by rw [hcf]
    have f4 : (cfm aP aS v).2.2.2 = opC aP aS := by rw [hcf]; exact hEC
    refine W_seq <| W_region (by rfl) ?_
    refine x (r_loadsB hB37 rfl rfl) <| x (r_loadsB hB47 rfl rfl) <| xl rfl <| xf <| (Loop_ok hP7 hS7 hst).mono ?_
    rintro r8 w8 ⟨hs8, va, rfl, hbad, _⟩
    have hva := hbad hE
    subst hva
    refine x r_move <| x (r_extract rfl rfl) <| x (r_extract rfl rfl) <| xl rfl <| o_alloc (us := [.slice none 0 0, .int .i64 0, .slice none 0 0, .slice none 0 0]) rfl fun b8 w9 hs9 hb8 hB8 => xl rfl <| o_stores (us := [.slice none 0 0, .int .i64 0, .slice none 0 0, .slice none 0 0]) hB8 rfl rfl rfl rfl ⟨rfl, rfl, rfl, rfl, trivial⟩ fun w10 hs10 hB8' => x r_assign <| xe ?_
    have hs710 : Step [] w7 w10 := hs8.trans (hs9.then1 hs10 hb8)
    refine W_seq <| W_region (by rfl) ?_
    refine x (r_loadsB (hB37.ext hs710) rfl rfl) <| x (r_loadsB (hB47.ext hs710) rfl rfl) <| xl rfl <| xf <| (Map_ok (hP7.ext hs710) (hS7.ext hs710) hst).mono ?_
    rintro r11 w11 ⟨hs11, vl, rfl, hbad, _⟩
    have hvl := hbad hE
    subst hvl
    have hs711 := hs710.trans hs11
    refine x r_move <| x (r_extract rfl rfl) <| x (r_extract rfl rfl) <| x r_assign <| x r_assign <| xe ?_
    refine W_seq <| W_region (by rfl) ?_
    refine x (r_loadsB (hB37.ext hs711) rfl rfl) <| x (r_loadsB (hB47.ext hs711) rfl rfl) <| xl rfl <| xf <| (Classes_ok (hP7.ext hs711) (hS7.ext hs711) hst).mono ?_
    rintro r12 w12 ⟨hs12, vc, rfl, hbad, _⟩
    have hvc := hbad hE
    subst hvc
    have hs712 := hs711.trans hs12
    refine x r_move <| x (r_extract rfl rfl) <| x (r_extract rfl rfl) <| x r_assign <| x r_assign <| xe ?_
    refine W_seq <| W_region (by rfl) ?_
    refine x (r_loadsB (hB37.ext hs712) rfl rfl) <| x (r_loadsB (hB47.ext hs712) rfl rfl) <| xl rfl <| xf <| (Reduce_ok (hP7.ext hs712) (hS7.ext hs712) hst).mono ?_
    rintro r13 w13 ⟨hs13, vr, rfl, hbad, _⟩
    have hvr := hbad (by rw [hrd]; exact hE)
    subst hvr
    refine x r_move <| x (r_extract rfl rfl) <| x (r_extract rfl rfl) <| xl rfl <| o_alloc (us := [.slice none 0 0, .int .i64 0, .slice none 0 0, .slice none 0 0]) rfl fun b14 w14 hs14 hb14 hB14 => xl rfl <| o_stores (us := [.slice none 0 0, .int .i64 0, .slice none 0 0, .slice none 0 0]) hB14 rfl rfl rfl rfl ⟨rfl, rfl, rfl, rfl, trivial⟩ fun w15 hs15 hB14' => x r_assign <| xe ?_
    have hs1015 : Step [] w10 w15 := (hs11.trans hs12).trans (hs13.trans (hs14.then1 hs15 hb14))
    have hs715 := hs710.trans hs1015
    refine W_seq <| W_region (by rfl) ?_
    refine x (r_loadsB (hB37.ext hs715) rfl rfl) <| x (r_loadsB (hB47.ext hs715) rfl rfl) <| x (r_loadsB (hB47.ext hs715) rfl rfl) <| xl rfl <| xf <| (EquivalentE_ok (aT := aS) (hP7.ext hs715) (hS7.ext hs715) hst hE).mono ?_
    rintro r16 w16 ⟨hs16, rfl⟩
    have hs716 := hs715.trans hs16
    refine x r_move <| x (r_extract rfl rfl) <| x (r_extract rfl rfl) <| x (r_extract rfl rfl) <| x r_assign <| x r_assign <| x r_assign <| xe ?_
    refine W_seq <| W_region (by rfl) ?_
    refine x (r_loadsB (hB37.ext hs716) rfl rfl) <| x (r_loadsB (hB47.ext hs716) rfl rfl) <| x (r_indexR (i := 0) rfl rfl (by decide)) <| x (r_loadB (hB57.ext hs716) rfl rfl) <| xl rfl <| xf <| (After_ok (hP7.ext hs716) (hS7.ext hs716) (hU.ext hs716) hst).mono ?_
    rintro r17 w17 ⟨hs17, vx, vy, rfl, hbad, _⟩
    obtain ⟨hvx, hvy⟩ := hbad (by rw [haf]; exact hE)
    subst hvx hvy
    have hs717 := hs716.trans hs17
    refine x r_move <| x (r_extract rfl rfl) <| x (r_extract rfl rfl) <| x (r_extract rfl rfl) <| x r_assign <| x r_assign <| x r_assign <| xe ?_
    refine W_seq <| W_region (by rfl) ?_
    refine x (r_loadsB (hB37.ext hs717) rfl rfl) <| x (r_loadsB (hB47.ext hs717) rfl rfl) <| x (r_indexR (i := 1) rfl rfl (by decide)) <| x (r_loadB (hB57.ext hs717) rfl rfl) <| xl rfl <| xf <| (Conforms_ok (hP7.ext hs717) (hS7.ext hs717) (hV.ext hs717) hst).mono ?_
    rintro r18 w18 ⟨hs18, vv, rfl, hvv⟩
    have hVV : Ints [] w18.heap vv (cfm aP aS v).2.1 := own_arr hvv (by omega) (by simp)
    refine x r_move <| x (r_extract rfl rfl) <| x (r_extract rfl rfl) <| x (r_extract rfl rfl) <| x (r_extract rfl rfl) <| x r_assign <| x r_assign <| x r_assign <| x r_assign <| xe ?_
    refine W_seq <| W_seq <| W_region (by rfl) ?_
    refine x r_move <| x (r_neT rfl rfl hC) <| xe ?_
    refine W_true rfl ?_
    have hB818 := ((hB8'.ext hs1015).ext hs16).ext (hs17.trans hs18)
    refine W_seq <| W_region (by rfl) ?_
    refine x (r_loadsB hB818 rfl rfl) <| xl rfl <| xf <| (noneZ_ok w18).mono ?_
    rintro r19 w19 ⟨rfl, hs19⟩
    refine x r_move <| x r_move <| x r_move <| x (r_eqI rfl rfl hEC) <| x (r_pick rfl) <| x r_move <| x r_move <| x (r_len rfl) <| x (r_eqI rfl rfl rfl) <| x (r_pick rfl) <| x r_move <| x r_move <| x r_move <| x (r_eqI rfl rfl hEC) <| x (r_pick rfl) <|
      x r_move <| x r_move <| x (r_len rfl) <| x (r_eqI rfl rfl rfl) <| x (r_pick rfl) <| x r_move <| x r_move <| x r_move <| x (r_eqI rfl rfl hEC) <| x (r_pick rfl) <| x r_move <| x (r_loadsB ((hB14'.ext hs16).ext ((hs17.trans hs18).trans hs19)) rfl rfl) <| xl rfl <| xf <| (noneZ_ok w19).mono ?_
    rintro r20 w20 ⟨rfl, hs20⟩
    refine x (r_pick rfl) <| x r_move <| x r_move <| x r_move <| x (r_eqI rfl rfl (hrd.trans hEC)) <| x (r_pick rfl) <| x r_move <| x r_move <| x (r_len rfl) <| x (r_eqI rfl rfl rfl) <| x (r_pick rfl) <| x r_move <| x r_move <| x (r_not rfl) <| x (r_pick rfl) <|
      x r_move <| x r_move <| x r_move <| x (r_eqI rfl rfl hEC) <| x (r_pick rfl) <| x r_move <| x r_move <| x (r_len rfl) <| x r_move <| x (r_len rfl) <| x (r_add rfl rfl ⟨by decide, by decide⟩) <| x (r_eqI rfl rfl rfl) <| x (r_pick rfl) <|
      x r_move <| x r_move <| x r_move <| x (r_eqI rfl rfl (haf.trans hEC)) <| x (r_pick rfl) <| x r_move <| x r_move <| x (r_eqI rfl rfl f1) <| x (r_pick rfl) <| x r_move <| x r_move <| x (r_lenA hVV rfl) <| x (r_eqI rfl rfl f2) <| x (r_pick rfl) <|
      x r_move <| x r_move <| x (r_eqI rfl rfl f3) <| x (r_pick rfl) <| x r_move <| x r_move <| x r_move <| x (r_eqI rfl rfl f4) <| x (r_pick rfl) <| x r_assign <| xe ?_
    exact W_ret ⟨[_], ⟨rfl, trivial⟩, rfl, (hW7.trans hs717).trans (hs18.trans (hs19.trans hs20))⟩
end Go.Proofs.YtfhgnlkdcdlblaaGreatDoor
/- What a law's row asks of a call that returns true and turns nothing that was there. -/
namespace Go.Lg
open Go.ChangeShapes Go.WideShapes Go.RowKit
section
variable {H : Type} {enc : TypeId × Value → H} {P : Program}
/-- The arguments read as they did. -/
theorem carry_all (hl : laidOutB P = true) {W W' : World} (hS : Step [] W W') {sp : Nat → Bool} : ∀ {ts : List TypeId} {vs : List Value} {ds : List (DataW H)} {ps : List MemPlace},
    (ts.all fun t => P.readableRec t && decide (t < P.types.size)) = true → DataW.TrodAll enc P W 0 (fun _ => true) true ts vs ds ps → (∀ x ∈ ps, x.block < W.heap.size) → (∀ x ∈ ps, sp x.block = true) → DataW.TrodAll enc P W' 0 sp true ts vs ds ps
  | [], vs, ds, ps, _, h, _, _ => by
    obtain ⟨rfl, rfl, rfl⟩ := trodAll_nil h
    exact trodAll_mk0
  | t :: ts, vs, ds, ps, hr, h, hlt, hsp => by
    obtain ⟨v, vs1, d, ds1, a, b, rfl, rfl, rfl, h1, h2⟩ := trodAll_cons h
    simp only [List.all_cons, Bool.and_eq_true, decide_eq_true_eq] at hr
    have hb : Below W.heap.size W W' := hS.below
    refine trodAll_cons_mk (WideElems.Trod_stays hl hr.1.1 hr.1.2 h1 (fun x hx => hb.same (hlt x (List.mem_append_left _ hx))) (fun x hx => hsp x (List.mem_append_left _ hx))) ?_
    exact carry_all hl hS (by simpa using hr.2) h2 (fun x hx => hlt x (List.mem_append_right _ hx)) (fun x hx => hsp x (List.mem_append_right _ hx))
theorem law_post {f : Func} {s : ChangeSpec} {apart fresh handsOn again : Bool} {W W' : World} {args : Array Value} {ds gs : List (DataW H)} {before : List MemPlace} {tb : TypeId}
    (hl : laidOutB P = true) (hread : (f.params.toList.all fun t => P.readableRec t && decide (t < P.types.size)) = true) (hrt : f.resultTypes = #[tb]) (htb : P.underlying tb = some .bool) (hvr : s.vars = [])
    (hfn : s.fn H (ds ++ gs) = { results := [.lit (.bool true)], args := ds })
    (hW : DataW.Whole enc P f.params.toList s.vars apart W args.toList ds gs before) (hS : Step [] W W') : s.post enc P f apart fresh handsOn again W args (.bool true) W' := by
  have hlt := hW.lt
  have hW' := hW
  obtain ⟨p, q, hA, hV, rfl, hz, hn⟩ := hW
  rw [hvr] at hV
  obtain ⟨rfl, rfl⟩ := trodVars_none hV
  rw [List.append_nil] at *
  have hargs : ∀ sp : Nat → Bool, (∀ x ∈ p, sp x.block = true) → DataW.TrodAll enc P W' 0 sp true f.params.toList args.toList ds p := fun sp hsp => carry_all hl hS hread hA hlt hsp
  have hres : ∀ (b : Nat) (sp : Nat → Bool) (hd : Bool), DataW.TrodAll enc P W' b sp hd f.resultTypes.toList ((Value.bool true).resultList f.resultTypes.size) [.lit (.bool true)] [] := fun b sp hd => by
    rw [hrt]; exact trodAll_mk1 (shut_bool htb true)
  have hb : Below W.heap.size W W' := hS.below
  have hvars : ∀ sp : Nat → Bool, DataW.TrodVars enc P W' sp s.vars ([] : List (DataW H)) [] := fun sp => by rw [hvr]; rfl
  have hfn1 : (s.fn H ds).results = [.lit (.bool true)] := by rw [hfn]
  have hfn2 : (s.fn H ds).args = ds := by rw [hfn]
  have hfn3 : (s.fn H ds).vars = [] := by rw [hfn]
  have hok : ∀ (j : Nat) (t : TypeId) (r : Value), f.resultTypes[j]? = some t → ((Value.bool true).resultList f.resultTypes.size)[j]? = some r → Value.okWide P W' .any 0 t r := ok_one hrt rfl (okWide_bool_mk htb true)
  refine ⟨ds, [], p, [], p, [], hW', ?_, ?_, ?_, ?_, fun _ => ⟨hok, [.lit (.bool true)] ++ ds, [], ([] ++ p) ++ [], ⟨[] ++ p, [], ?_, ?_, rfl, ?_, ?_⟩, ?_⟩⟩
  · rw [List.append_nil, hfn1]; exact hres _ _ _
  · rw [List.append_nil, hfn2]; exact hargs _ (fun x hx => by simpa using hlt x hx)
  · rw [List.append_nil, hfn3]; exact hvars _
  · exact World.keptBut_mono (fun _ f => f.elim) (hb.frame (fun _ => False))
  · exact trodAll_append (hargs _ (fun _ _ => rfl)) (hres _ _ _)
  · exact hvars _
  · intro b off hp
    have hp' : MemPlace.cell b off ∈ p := by simpa using hp
    rw [hb.frozen (p := ⟨b, off, none⟩) (hlt _ hp')]
    exact hz b off hp'
  · intro ha
    have := hn ha
    simpa using this
  · intro x hx _
    simpa using hx
end
end Go.Lg
/- Arguments of laws: structs of bytes, slices of bytes. -/
namespace Go.Proofs.YtfhgnlkdcdlblaaGreatDoor
open Go.ChangeShapes Go.WideShapes Go.RowKit Go.Lg

def isU8 (P : Program) (u : TypeId) : Bool := match P.underlying u with
  | some (.int .u8) => true
  | _ => false
theorem isU8_spec {P : Program} {u : TypeId} (h : isU8 P u = true) : P.underlying u = some (.int .u8) := by
  unfold isU8 at h
  split at h
  · assumption
  · cases h
theorem bys_of : ∀ (l : List Value), (∀ v ∈ l, ∃ n : Nat, v = .int .u8 (n : Int) ∧ n < 256) → ∃ ns : List Nat, l = bys ns ∧ ns.length = l.length ∧ ∀ n ∈ ns, n < 256
  | [], _ => ⟨[], rfl, rfl, by simp⟩
  | v :: l, h => by
    obtain ⟨n, rfl, hn⟩ := h v List.mem_cons_self
    obtain ⟨ns, h1, h2, h3⟩ := bys_of l (fun v hv => h v (List.mem_cons_of_mem _ hv))
    refine ⟨n :: ns, by rw [h1]; rfl, by simp [h2], fun m hm => ?_⟩
    rcases List.mem_cons.1 hm with rfl | hm
    · exact hn
    · exact h3 m hm
/-- A struct of bytes alone: its cells. -/
theorem bytes_of {P : Program} {W : World} {base t m : Nat} {v : Value} {fs : Array Field} (hu : P.underlying t = some (.struct fs)) (hts : ((P.cellTypes P.depth t).map fun ts => ts.all (isU8 P)) = some true) (hc : P.cellsOf t = m) (hval : Value.okWide P W .any base t v) :
    ∃ ns : List Nat, v = .agg (bys ns).toArray ∧ ns.length = m ∧ ∀ n ∈ ns, n < 256 := by
  simp only [Value.okWide, hu] at hval
  obtain ⟨cs, rfl, hsz, ts, hts', _, hcell⟩ := hval
  rw [hts'] at hts
  simp only [Option.map_some, Option.some.injEq] at hts
  obtain ⟨l⟩ := cs
  obtain ⟨ns, h1, h2, h3⟩ := bys_of l (fun v hv => by
    obtain ⟨i, hi, rfl⟩ := List.getElem_of_mem hv
    obtain ⟨u, hu1, hu2⟩ := hcell i l[i] (by simp [hi])
    have hu3 := isU8_spec (List.all_eq_true.1 hts u (List.mem_of_getElem? hu1))
    simp only [Cell.okWide, hu3] at hu2
    generalize l[i] = x at hu2
    cases x <;> simp only [Cell.ok, hu3] at hu2
    obtain ⟨rfl, hr⟩ := hu2
    simp only [IntKind.has] at hr
    rw [show IntKind.u8.min = 0 from rfl, show IntKind.u8.max = 255 from rfl] at hr
    rename_i n
    exact ⟨n.toNat, by rw [Int.toNat_of_nonneg hr.1], by omega⟩)
  subst h1
  refine ⟨ns, rfl, ?_, h3⟩
  rw [h2, ← hc, ← hsz]; rfl
theorem At.of_cell {w : World} {a : Addr} {u : Value} (h : w.cell? a = some u) : At [] w.heap a [u] := by
  have hc : cel w.heap a = some u := h
  refine ⟨by simp, ?_, fun j v hv => ?_⟩
  · unfold cel at hc
    cases hb : w.heap[a.block]? with
    | none => rw [hb] at hc; cases hc
    | some o => exact (Array.getElem?_eq_some_iff.1 hb).1
  · cases j with
    | zero => simp at hv; subst hv; rw [show a.add 0 = a by simp [Addr.add]]; exact hc
    | succ j => simp at hv
theorem wf_nat {n : Int} (h : (Lit.int .u8 n).wf = true) : ∃ m : Nat, n = m ∧ m < 256 := by
  simp only [Lit.wf, Bool.and_eq_true, decide_eq_true_eq] at h
  rw [show IntKind.u8.min = 0 from rfl, show IntKind.u8.max = 255 from rfl] at h
  exact ⟨n.toNat, by omega, by omega⟩
/-- The first bytes of a slice that is handed over. -/
theorem bytes_slice {H : Type} {enc : TypeId × Value → H} {P : Program} {W : World} {base : Nat} {sp : Nat → Bool} {held : Bool} {t e : TypeId} {ad : Option Addr} {nb cb : Nat} {d : DataW H} {ps : List MemPlace} (ht : P.underlying t = some (.slice e)) (he : P.underlying e = some (.int .u8)) (hc : P.cellsOf e = 1)
    (h : DataW.Trod enc P W base sp held t (.slice ad nb cb) d ps) (m : Nat) :
    ∃ ms : List Nat, ms.length = min nb m ∧ (∀ k (hk : k < ms.length), ∃ a, ad = some a ∧ At [] W.heap (a.add (k * 1)) [.int .u8 ((ms[k]'hk : Nat) : Int)]) ∧ ∀ n ∈ ms, n < 256 := by
  obtain ⟨fuel, hf⟩ := h
  rcases open_ints ht he hc hf with ⟨hcs, _⟩ | ⟨a, len, cap, zs, hcs, _, hl, _, hz, _, hcell, hwz⟩
  · simp [Value.cells] at hcs
    obtain ⟨rfl, rfl, rfl⟩ := hcs
    exact ⟨[], by simp, fun k hk => by simp at hk, by simp⟩
  · simp [Value.cells] at hcs
    obtain ⟨rfl, rfl, rfl⟩ := hcs
    have hzl : nb ≤ zs.length := by rw [hz]; split <;> omega
    have hget : ∀ k, k < min nb m → ∃ n : Nat, zs.getD k 0 = (n : Int) ∧ n < 256 := fun k hk => wf_nat (hwz _ (by simp [List.getD, show k < zs.length by omega]))
    refine ⟨(zs.take (min nb m)).map Int.toNat, by simp; omega, fun k hk => ⟨a, rfl, ?_⟩, fun n hn => ?_⟩
    · have hk' : k < min nb m := by simp at hk; omega
      obtain ⟨n, hn, _⟩ := hget k hk'
      have h1 := hcell k (by omega)
      rw [hn] at h1
      have e1 : (((zs.take (min nb m)).map Int.toNat)[k]'hk : Nat) = n := by
        rw [List.getElem_map, List.getElem_take]
        have : zs[k]'(by omega) = zs.getD k 0 := by simp [List.getD, show k < zs.length by omega]
        rw [this, hn]; rfl
      rw [e1, Nat.mul_one]
      exact At.of_cell h1
    · obtain ⟨z, hz', rfl⟩ := List.mem_map.1 hn
      obtain ⟨n, rfl, hn2⟩ := wf_nat (hwz z (List.mem_of_mem_take hz'))
      simpa using hn2
end Go.Proofs.YtfhgnlkdcdlblaaGreatDoor
/- Automata and lists that are handed over: what is read of them. -/
namespace Go.Proofs.YtfhgnlkdcdlblaaGreatDoor
open Go.ChangeShapes Go.WideShapes Go.RowKit Go.Lg

theorem shape_lt {w : World} {b : Nat} {s : TypeId × Nat} (h : w.shape? b = some s) : b < w.heap.size := by
  unfold World.shape? at h
  cases hb : w.heap[b]? with
  | none => simp [hb] at h
  | some o => exact (Array.getElem?_eq_some_iff.1 hb).1
theorem has_lt {P : Program} {w : World} {base : Nat} {a : Addr} {e : TypeId} {n : Nat} (h : w.has P .any base a e n) : a.block < w.heap.size := by
  obtain ⟨_, _, row, cells, h1, _⟩ := h
  exact shape_lt h1
theorem slice_lt {P : Program} {w : World} {base : Nat} {t e : TypeId} {a : Addr} {n c : Nat} (ht : P.underlying t = some (.slice e)) (h : Cell.okWide P w .any base t (.slice (some a) n c)) : a.block < w.heap.size := by
  simp only [Cell.okWide, Cell.ok, ht] at h
  exact has_lt h.2.2
theorem argInts {H : Type} {enc : TypeId × Value → H} {P : Program} {W : World} {base b0 : Nat} {sp : Nat → Bool} {held : Bool} {t e : TypeId} {c : Value} {fuel : Nat} {x : DataW H × List MemPlace} (ht : P.underlying t = some (.slice e)) (he : P.underlying e = some (.int .i64)) (hc : P.cellsOf e = 1)
    (hok : Cell.okWide P W .any base t c) (htr : DataW.trod enc P W b0 sp held fuel t [c] = some x) : ∃ a n cp, c = .slice a n cp ∧ (n ≤ 12 → ∃ u : List Int, u.length = n ∧ Ints [] W.heap (.slice a n cp) u) := by
  rcases open_ints ht he hc htr with ⟨hcs, _⟩ | ⟨a, len, cap, zs, hcs, _, hl, _, hz, _, hcell, _⟩
  · simp at hcs
    subst hcs
    exact ⟨none, 0, 0, rfl, fun _ => ⟨[], rfl, Arr.nil _ _ _⟩⟩
  · simp at hcs
    subst hcs
    have hzl : len ≤ zs.length := by rw [hz]; split <;> omega
    refine ⟨some a, len, cap, rfl, fun h12 => ⟨zs.take len, by simp; omega, ?_⟩⟩
    have hlen : (zs.take len).length = len := by simp; omega
    unfold Ints
    rw [hlen]
    refine ⟨by simp; omega, by omega, .inr ⟨a, cap, rfl, hl, by simp, slice_lt ht hok, fun j v hv => ?_⟩⟩
    rw [List.getElem?_map, List.getElem?_take] at hv
    split at hv
    · rename_i hj
      have h1 := hcell j (by omega)
      have h2 : zs[j]? = some (zs.getD j 0) := by simp [List.getD, show j < zs.length by omega]
      rw [h2] at hv
      simp at hv
      rw [← cel_world, h1, ← hv]
      simp [List.getD, show j < zs.length by omega]
    · cases hv
theorem list_of {α : Type} {p : Nat → α → Prop} : ∀ (n : Nat), (∀ i, i < n → ∃ e, p i e) → ∃ l : List α, l.length = n ∧ ∀ i (h : i < l.length), p i (l[i]'h)
  | 0, _ => ⟨[], rfl, fun i h => by simp at h⟩
  | n + 1, h => by
    obtain ⟨l, h1, h2⟩ := list_of n (fun i hi => h i (by omega))
    obtain ⟨e, he⟩ := h n (by omega)
    refine ⟨l ++ [e], by simp [h1], fun i hi => ?_⟩
    by_cases hil : i < l.length
    · rw [List.getElem_append_left hil]; exact h2 i hil
    · have : i = n := by simp at hi; omega
      subst this
      rw [List.getElem_append_right (by omega)]
      simpa [h1] using he
theorem mapM_range3 {f : Nat → Option Value} {l : List Value} (h : (List.range 3).mapM f = some l) : ∃ a b c, l = [a, b, c] ∧ f 0 = some a ∧ f 1 = some b ∧ f 2 = some c := by
  simp only [show List.range 3 = [0, 1, 2] from rfl, List.mapM_cons, List.mapM_nil, Option.bind_eq_bind, Option.pure_def, Option.bind_eq_some_iff] at h
  obtain ⟨a, ha, l1, ⟨b, hb, l2, ⟨c, hc, l3, h3, h4⟩, h5⟩, h6⟩ := h
  cases h3
  cases h4
  cases h5
  cases h6
  exact ⟨a, b, c, rfl, ha, hb, hc⟩
theorem argEds {H : Type} {enc : TypeId × Value → H} {P : Program} {W : World} {base b0 : Nat} {sp : Nat → Bool} {held : Bool} {t e : TypeId} {c : Value} {fuel : Nat} {x : DataW H × List MemPlace} {fs : Array Field} {f0 f1 f2 : Field} (ht : P.underlying t = some (.slice e)) (he : P.underlying e = some (.struct fs)) (hc : P.cellsOf e = 3)
    (h0 : fs[0]? = some f0) (h1 : fs[1]? = some f1) (h2 : fs[2]? = some f2) (hn : fs.size = 3) (o0 : f0.offset = 0) (o1 : f1.offset = 1) (o2 : f2.offset = 2) (u0 : P.underlying f0.type = some (.int .i64)) (u1 : P.underlying f1.type = some (.int .i64)) (u2 : P.underlying f2.type = some (.int .i64))
    (c0 : P.cellsOf f0.type = 1) (c1 : P.cellsOf f1.type = 1) (c2 : P.cellsOf f2.type = 1)
    (hok : Cell.okWide P W .any base t c) (htr : DataW.trod enc P W b0 sp held fuel t [c] = some x) : ∃ a n cp, c = .slice a n cp ∧ (n ≤ 12 → ∃ u : List Ed, u.length = n ∧ Eds [] W.heap (.slice a n cp) u) := by
  rcases DataW.trod_slice ht htr with ⟨hcs, _⟩ | ⟨a, len, cap, elems, rest, m, _, hcs, _, _, hl, _, hel, hread, _, _⟩
  · simp at hcs
    subst hcs
    exact ⟨none, 0, 0, rfl, fun _ => ⟨[], rfl, Arr.nil _ _ _⟩⟩
  · simp at hcs
    subst hcs
    refine ⟨some a, len, cap, rfl, fun h12 => ?_⟩
    have each : ∀ i, i < len → ∃ d : Ed, ∀ r v, (edCells d)[r]? = some v → W.cell? (a.add (i * 3 + r)) = some v := by
      intro i hi
      have hr := hread i hi
      rw [hc] at hr
      have hs : elems[i]? = some (elems[i]'(by omega)) := by simp [show i < elems.length by omega]
      rw [hs] at hr
      obtain ⟨cs, hcs, htd⟩ := Option.bind_eq_some_iff.1 hr
      unfold World.cells? at hcs
      split at hcs
      · obtain ⟨x0, x1, x2, rfl, e0, e1, e2⟩ := mapM_range3 hcs
        obtain ⟨xs, m', _, _, _, hxl, hf⟩ := DataW.trod_struct he htd
        have g0 := hf 0 f0 h0
        have g1 := hf 1 f1 h1
        have g2 := hf 2 f2 h2
        rw [o0, c0] at g0
        rw [o1, c1] at g1
        rw [o2, c2] at g2
        have s0 : xs[0]? = some (xs[0]'(by omega)) := by simp [show 0 < xs.length by omega]
        have s1 : xs[1]? = some (xs[1]'(by omega)) := by simp [show 1 < xs.length by omega]
        have s2 : xs[2]? = some (xs[2]'(by omega)) := by simp [show 2 < xs.length by omega]
        rw [s0] at g0
        rw [s1] at g1
        rw [s2] at g2
        obtain ⟨n0, k0, _⟩ := DataW.trod_int u0 g0
        obtain ⟨n1, k1, _⟩ := DataW.trod_int u1 g1
        obtain ⟨n2, k2, _⟩ := DataW.trod_int u2 g2
        simp at k0 k1 k2
        subst k0 k1 k2
        refine ⟨(n0, n1, n2), fun r v hv => ?_⟩
        rw [Lg.Addr.add_add] at e0 e1 e2
        match r, hv with
        | 0, hv => simp [edCells] at hv; subst hv; exact e0
        | 1, hv => simp [edCells] at hv; subst hv; exact e1
        | 2, hv => simp [edCells] at hv; subst hv; exact e2
        | r + 3, hv => simp [edCells] at hv
      · cases hcs
    obtain ⟨u, hul, hu⟩ := list_of len each
    refine ⟨u, hul, ?_⟩
    unfold Eds
    have hfl : (u.flatMap edCells).length = u.length * 3 := flat_len edCells 3 edCells_len u
    refine ⟨hfl, by omega, .inr ⟨a, cap, by rw [hul], by omega, by simp, slice_lt ht hok, fun j v hv => ?_⟩⟩
    have hj : j < u.length * 3 := by
      rw [← hfl]
      exact (List.getElem?_eq_some_iff.1 hv).1
    have hi : j / 3 < u.length := by omega
    have hat := flat_at edCells 3 edCells_len u (j / 3) hi
    have hjr : j = j / 3 * 3 + j % 3 := by omega
    have h3 : (edCells (u[j / 3]'hi))[j % 3]? = some v := by
      rw [← hat, List.getElem?_take, if_pos (Nat.mod_lt _ (by omega)), List.getElem?_drop, ← hjr]; exact hv
    rw [← cel_world]
    have := hu (j / 3) hi (j % 3) v h3
    rw [← hjr] at this
    exact this
end Go.Proofs.YtfhgnlkdcdlblaaGreatDoor
/- The arguments of SupervisorErrors. -/
namespace Go.Proofs.YtfhgnlkdcdlblaaGreatDoor
open Go.ChangeShapes Go.WideShapes Go.RowKit Go.Lg

theorem okI64 {P : Program} {W : World} {base t : Nat} {v : Value} (ht : P.underlying t = some (.int .i64)) (h : Cell.okWide P W .any base t v) : ∃ n, v = .int .i64 n := by
  simp only [Cell.okWide, ht] at h
  cases v <;> simp only [Cell.ok, ht] at h
  obtain ⟨rfl, _⟩ := h
  exact ⟨_, rfl⟩
theorem okAt {P : Program} {W : World} {base : Nat} {ts : List TypeId} {cs : Array Value} (h : ∀ (i : Nat) (v : Value), cs[i]? = some v → ∃ u, ts[i % ts.length]? = some u ∧ Cell.okWide P W .any base u v) (i : Nat) (t : TypeId) (v : Value) (hv : cs[i]? = some v) (ht : ts[i % ts.length]? = some t) : Cell.okWide P W .any base t v := by
  obtain ⟨u, hu, k⟩ := h i v hv
  rw [ht] at hu
  cases hu
  exact k
theorem fldAt {H : Type} {enc : TypeId × Value → H} {P : Program} {W : World} {b0 m : Nat} {sp : Nat → Bool} {held : Bool} {fs : Array Field} {cs : List Value} {xs : List (DataW H × List MemPlace)}
    (h : ∀ (i : Nat) (f : Field), fs[i]? = some f → DataW.trod enc P W b0 sp held m f.type ((cs.drop f.offset).take (P.cellsOf f.type)) = xs[i]?) (i : Nat) {f : Field} {t o : Nat} {c : Value} (hf : fs[i]? = some f) (ht : f.type = t) (ho : f.offset = o) (hc : P.cellsOf t = 1) (hcs : (cs.drop o).take 1 = [c]) (hi : i < xs.length) :
    DataW.trod enc P W b0 sp held m t [c] = some (xs[i]'hi) := by
  have e := h i f hf
  rw [ht, ho, hc, hcs] at e
  rw [e]; simp [hi]
theorem argA_gen {H : Type} {enc : TypeId × Value → H} {P : Program} {W : World} {base b0 : Nat} {sp : Nat → Bool} {held : Bool} {v : Value} {d : DataW H} {ps : List MemPlace} {t ti tI te tE : Nat} {f0 f1 f2 f3 g0 g1 g2 : Field}
    (hu : P.underlying t = some (.struct #[f0, f1, f2, f3])) (ht0 : f0.type = tI) (ht2 : f2.type = tI) (ht3 : f3.type = tE) (ho0 : f0.offset = 0) (ho2 : f2.offset = 2) (ho3 : f3.offset = 3)
    (hts : P.cellTypes P.depth t = some [tI, ti, tI, tE]) (hc4 : P.cellsOf t = 4) (hcI : P.cellsOf tI = 1) (hci : P.cellsOf ti = 1) (hcE : P.cellsOf tE = 1) (hce : P.cellsOf te = 3)
    (uI : P.underlying tI = some (.slice ti)) (ui : P.underlying ti = some (.int .i64)) (uE : P.underlying tE = some (.slice te)) (ue : P.underlying te = some (.struct #[g0, g1, g2]))
    (p0 : g0.type = ti) (p1 : g1.type = ti) (p2 : g2.type = ti) (o0 : g0.offset = 0) (o1 : g1.offset = 1) (o2 : g2.offset = 2)
    (hval : Value.okWide P W .any base t v) (h : DataW.Trod enc P W b0 sp held t v d ps) : ArgA W v := by
  simp only [Value.okWide, hu] at hval
  obtain ⟨cs, rfl, hsz, ts, hts', _, hcell⟩ := hval
  rw [hts] at hts'
  cases hts'
  rw [hc4] at hsz
  obtain ⟨l⟩ := cs
  have hl : l.length = 4 := hsz
  match l, hl with
  | [x0, x1, x2, x3], _ =>
    have k0 := okAt hcell 0 tI x0 rfl rfl
    have k1 := okAt hcell 1 ti x1 rfl rfl
    have k2 := okAt hcell 2 tI x2 rfl rfl
    have k3 := okAt hcell 3 tE x3 rfl rfl
    obtain ⟨fuel, hf⟩ := h
    obtain ⟨xs, m, _, _, _, hxl, hfld⟩ := DataW.trod_struct hu hf
    have hxl4 : xs.length = 4 := hxl
    have q0 := fldAt (c := x0) hfld 0 rfl ht0 ho0 hcI rfl (by omega)
    have q2 := fldAt (c := x2) hfld 2 rfl ht2 ho2 hcI rfl (by omega)
    have q3 := fldAt (c := x3) hfld 3 rfl ht3 ho3 hcE rfl (by omega)
    obtain ⟨st, rfl⟩ := okI64 ui k1
    obtain ⟨a1, n1, c1, rfl, e1⟩ := argInts uI ui hci k0 q0
    obtain ⟨a2, n2, c2, rfl, e2⟩ := argInts uI ui hci k2 q2
    obtain ⟨a3, n3, c3, rfl, e3⟩ := argEds (f0 := g0) (f1 := g1) (f2 := g2) uE ue hce rfl rfl rfl rfl o0 o1 o2 (by rw [p0]; exact ui) (by rw [p1]; exact ui) (by rw [p2]; exact ui) (by rw [p0]; exact hci) (by rw [p1]; exact hci) (by rw [p2]; exact hci) k3 q3
    refine ⟨a1, n1, c1, st, a2, n2, c2, a3, n3, c3, rfl, fun h1 h2 h3 => ?_⟩
    obtain ⟨al, hl1, hA1⟩ := e1 h1
    obtain ⟨mr, hl2, hA2⟩ := e2 h2
    obtain ⟨ed, hl3, hA3⟩ := e3 h3
    exact ⟨⟨al, st, mr, ed⟩, rfl, ⟨hA1, hA2, hA3⟩, hl1, hl2, hl3⟩
theorem argLs_gen {H : Type} {enc : TypeId × Value → H} {P : Program} {W : World} {base b0 : Nat} {sp : Nat → Bool} {held : Bool} {v : Value} {d : DataW H} {ps : List MemPlace} {t ti tI : Nat}
    (hu : P.underlying t = some (.array 2 tI)) (hts : P.cellTypes P.depth t = some [tI, tI]) (hc2 : P.cellsOf t = 2) (hcI : P.cellsOf tI = 1) (hci : P.cellsOf ti = 1)
    (uI : P.underlying tI = some (.slice ti)) (ui : P.underlying ti = some (.int .i64))
    (hval : Value.okWide P W .any base t v) (h : DataW.Trod enc P W b0 sp held t v d ps) : ∃ v0 v1, v = .agg #[v0, v1] ∧ ArgL W v0 ∧ ArgL W v1 := by
  simp only [Value.okWide, hu] at hval
  obtain ⟨cs, rfl, hsz, ts, hts', _, hcell⟩ := hval
  rw [hts] at hts'
  cases hts'
  rw [hc2] at hsz
  obtain ⟨l⟩ := cs
  have hl : l.length = 2 := hsz
  match l, hl with
  | [x0, x1], _ =>
    have k0 := okAt hcell 0 tI x0 rfl rfl
    have k1 := okAt hcell 1 tI x1 rfl rfl
    obtain ⟨fuel, hf⟩ := h
    obtain ⟨xs, m, _, _, _, hxl, hfld⟩ := DataW.trod_array hu hf
    have e0 := hfld 0 (by omega)
    have e1 := hfld 1 (by omega)
    rw [hcI] at e0 e1
    rw [show xs[0]? = some (xs[0]'(by omega)) by simp [show 0 < xs.length by omega]] at e0
    rw [show xs[1]? = some (xs[1]'(by omega)) by simp [show 1 < xs.length by omega]] at e1
    exact ⟨x0, x1, rfl, argInts uI ui hci k0 e0, argInts uI ui hci k1 e1⟩
set_option maxRecDepth 100000 in
theorem argA {H : Type} {enc : TypeId × Value → H} {W : World} {base b0 : Nat} {sp : Nat → Bool} {held : Bool} {v : Value} {d : DataW H} {ps : List MemPlace} (hval : Value.okWide Tryz.prog W .any base 35 v) (h : DataW.Trod enc Tryz.prog W b0 sp held 35 v d ps) : ArgA W v :=
  argA_gen Tryz.underlying35 rfl rfl rfl rfl rfl rfl (by kernel_rfl) (by kernel_rfl) (by kernel_rfl) (by kernel_rfl) (by kernel_rfl) (by kernel_rfl) Tryz.underlying32 Tryz.underlying3 Tryz.underlying33 Tryz.underlying85 rfl rfl rfl rfl rfl rfl hval h
set_option maxRecDepth 100000 in
theorem argLs {H : Type} {enc : TypeId × Value → H} {W : World} {base b0 : Nat} {sp : Nat → Bool} {held : Bool} {v : Value} {d : DataW H} {ps : List MemPlace} (hval : Value.okWide Tryz.prog W .any base 52 v) (h : DataW.Trod enc Tryz.prog W b0 sp held 52 v d ps) :
    ∃ v0 v1, v = .agg #[v0, v1] ∧ ArgL W v0 ∧ ArgL W v1 :=
  argLs_gen Tryz.underlying52 (by kernel_rfl) (by kernel_rfl) (by kernel_rfl) (by kernel_rfl) Tryz.underlying32 Tryz.underlying3 hval h

end Go.Proofs.YtfhgnlkdcdlblaaGreatDoor
