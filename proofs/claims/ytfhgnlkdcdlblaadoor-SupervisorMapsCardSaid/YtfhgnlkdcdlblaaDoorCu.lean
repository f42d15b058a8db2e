/- Contract: supervisor.Reduce. -/
import Derived.Test.YtfhgnlkdcdlblaaDoorCt
import Derived.Test.YtfhgnlkdcdlblaaDoorSw
namespace Go.Proofs.YtfhgnlkdcdlblaaDoor
open Go.Lg

theorem ctls_len (p s : Aut) (q : List (List Int)) : (ctls p s q).length = s.st.toNat := by
  unfold ctls
  have : ∀ (q : List (List Int)) (o : List Ctl), (q.foldl (ctlQ p s) o).length = o.length := by
    intro q
    induction q with
    | nil => intro o; rfl
    | cons a q ih => intro o; rw [List.foldl_cons, ih]; simp [ctlQ]
  rw [this]; simp
theorem tryC_len (s : Aut) (l : List Ctl) (c : List Int) (x y : Nat) : (tryC s l c x y).length = c.length := by
  unfold tryC
  split
  · rfl
  · simp only []
    split
    · rw [closeC_len, mergeC_len]
    · rfl
theorem tryX_len (s : Aut) (l : List Ctl) (n x : Nat) (c : List Int) : (tryX s l n c x).length = c.length := by
  unfold tryX
  generalize List.range' (x + 1) (n - (x + 1)) = ys
  induction ys generalizing c with
  | nil => rfl
  | cons y ys ih => rw [List.foldl_cons, ih, tryC_len]
theorem clsA_len (s : Aut) (l : List Ctl) (c : List Int) : (clsA s l c).length = c.length := by
  unfold clsA
  have : ∀ (n : Nat) (xs : List Nat) (c : List Int), (xs.foldl (tryX s l n) c).length = c.length := by
    intro n xs
    induction xs with
    | nil => intro c; rfl
    | cons x xs ih => intro c; rw [List.foldl_cons, ih, tryX_len]
  exact this _ _ _
theorem clsOf_len (p s : Aut) (q : List (List Int)) : (clsOf p s q).length = s.st.toNat := by
  unfold clsOf nums
  rw [nums_len, clsA_len]; simp [cls0, occs_len]
theorem clsOf_bd (p s : Aut) (q : List (List Int)) : ∀ c ∈ clsOf p s q, -1 ≤ c ∧ c ≤ s.st.toNat := by
  intro c hc
  have := nums_bd _ c hc
  rw [clsA_len] at this
  simpa [cls0, occs_len] using this
theorem cget_mem {l : List Int} {i : Nat} (h : i < l.length) : cget l i ∈ l := by rw [← cget_eq h]; exact List.getElem_mem h
theorem exE {α : Type} (a : α) {Q : Prop} (h : ∀ b, a = b → Q) : Q := h a rfl
theorem exN {a : Int} (h0 : 0 ≤ a) {Q : Prop} (h : ∀ u : Nat, a = u → Q) : Q := h a.toNat (Int.toNat_of_nonneg h0).symm
theorem gget_elim (m : List ((Int × Int) × Int)) (k : Int × Int) {Q : Prop} (h1 : mget (genc m) k = none → gget m k = none → Q) (h2 : ∀ t, mget (genc m) k = some (.int .i64 t) → gget m k = some t → Q) : Q := by
  rw [genc_get] at h1 h2
  cases h : gget m k with
  | none => rw [h] at h1; exact h1 rfl rfl
  | some t => rw [h] at h2; exact h2 t rfl rfl
set_option maxHeartbeats 8000000 in
theorem Reduce_ok {L : List Nat} {w : World} {pva pvm pve sa sm se : Value} {aP aS : Aut} (hp : AutA L w.heap pva pvm pve aP) (hsA : AutA L w.heap sa sm se aS) (hst : Okay aP → Okay aS → aP.st ≤ 100 ∧ aS.st ≤ 100) :
    Ret Tryd.prog 12 [.agg #[pva, .int .i64 aP.st, pvm, pve], .agg #[sa, .int .i64 aS.st, sm, se]] w fun r w' => Step [] w w' ∧ ∃ v, r = .tuple #[v, .int .i64 (rdE aP aS)] ∧
      (rdE aP aS ≠ 0 → v = zA) ∧ (rdE aP aS = 0 → AutF w.heap.size w'.heap v (rdA aP aS)) := by
  refine Ret.of_W Tryd.func12 rfl Tryd.ntmps12 Tryd.results12 (by simp) ?_
  refine W_seq <| W_region (by rfl) ?_
  refine xl rfl <| o_box (us := [pva, .int .i64 aP.st, pvm, pve]) rfl fun b2 w1 hs1 hb2 hB2 => xl rfl <| o_box (us := [sa, .int .i64 aS.st, sm, se]) rfl fun b3 w2 hs2 hb3 hB3 =>
    xl rfl <| o_alloc (us := [.slice none 0 0, .int .i64 0, .slice none 0 0, .slice none 0 0]) rfl fun b4 w3 hs3 hb4 hB4 => x r_assign <| xe ?_
  have hs13 := (hs1.trans hs2).trans hs3
  refine W_seq <| W_region (by rfl) ?_
  refine x (r_loadsB ((hB2.ext hs2).ext hs3) rfl rfl) <| x (r_loadsB (hB3.ext hs3) rfl rfl) <| xl rfl <| xf <| (sopen_ok (hp.ext hs13) (hsA.ext hs13) hst).mono ?_
  rintro r4 w4 ⟨hs4, va, vt, rfl, hO⟩
  obtain ⟨us, hva, husl, hus⟩ := hO.shape
  refine x r_move <| x (r_extract rfl rfl) <|
    x (r_extract rfl rfl) <| x (r_extract rfl rfl) <| xl rfl <| o_alloc (us := [.slice none 0 0, .int .i64 0, .slice none 0 0, .slice none 0 0]) rfl fun b6 w5 hs5 hb6 hB6 => xl rfl <| o_stores (us := us) hB6 rfl hva husl rfl hus fun w6 hs6 hB6 =>
    x r_assign <| x r_assign <| xe ?_
  have hs46 : Step [] w4 w6 := hs5.then1 hs6 hb6
  have hs36 := hs4.trans hs46
  have hW6 := hs13.trans hs36
  have hB46 := hB4.ext hs36
  have hl4 := hB4.lt
  have hz1 := hs1.size
  have hz2 := hs2.size
  have hz36 := hs36.size
  have hzW6 := hW6.size
  refine W_seq <| W_seq <| W_region (by rfl) ?_
  refine x r_move <| x (r_neq rfl rfl) <| xe ?_
  refine W_if rfl (fun h31 => ?_) (fun h31 => ?_)
  · have hE : rdE aP aS = opE aP aS := by unfold rdE; rw [if_pos h31]
    refine W_seq <| W_region (by rfl) ?_
    refine x (r_build trivial) <| x r_move <| xl rfl <| o_stores (us := [.slice none 0 0, .int .i64 0, .slice none 0 0, .slice none 0 0]) hB46 rfl rfl rfl rfl ⟨rfl, rfl, rfl, rfl, trivial⟩ fun w7 hs7 hB7 => x r_assign <| xe ?_
    exact W_ret ⟨[zA, .int .i64 (opE aP aS)], ⟨⟨_, rfl, run_loadVar_ag rfl (hB7.at (L := []) (by simp)).cells⟩, rfl, trivial⟩, hW6.then1 hs7 (by omega), zA, by rw [hE]; rfl, fun _ => rfl, fun e => by rw [hE] at e; exact absurd e h31⟩
  have h0 : opE aP aS = 0 := Decidable.not_not.1 h31
  obtain ⟨o1, o2, _, hv, hl⟩ := opE_zero h0
  obtain ⟨qs, hqe, hqs⟩ := (hO.good h0).2
  have hqsl : qs.length ≤ 4096 := by rw [← hqe] at hl; simpa using hl
  obtain ⟨n, hn⟩ : ∃ n : Nat, aS.st = n := ⟨aS.st.toNat, by have := o2.st0; omega⟩
  have hn4 : n ≤ 4096 := by have := o2.st1; omega
  have hnn : aS.st.toNat = n := by omega
  have hsb : StB aS n := fun e he => by have := o2.ed e he; omega
  have hal := o2.al_le
  have hE : rdE aP aS = if opQ aP aS = [] then 0 else ckA (red aP aS) := by unfold rdE; rw [if_neg h31]
  have hAd : rdA aP aS = if opQ aP aS = [] then ⟨aS.al, 0, [], []⟩ else canA (red aP aS) := rfl
  unfold red at hE hAd
  have hlen1 := clsOf_len aP aS (opQ aP aS)
  have hbd1 := clsOf_bd aP aS (opQ aP aS)
  rw [hnn] at hlen1 hbd1
  refine W_skip ?_
  have hB36 := (hB3.ext hs3).ext hs36
  have hB26 := ((hB2.ext hs2).ext hs3).ext hs36
  refine W_seq <| W_region (by rfl) ?_
  refine x (r_fieldB rfl) <| x (r_loadB hB36 rfl rfl) <| xl rfl <| xf <| (clone_ok (hsA.al.ext hW6)).mono ?_
  rintro vcl w8 ⟨hs8, hcl⟩
  have hclA := IntsO.ints (L := []) hcl (by omega) (by simp)
  refine x (r_build ⟨hclA.cells, trivial⟩) <| xl rfl <| o_alloc (us := [.slice none 0 0, .int .i64 0, .slice none 0 0, .slice none 0 0]) rfl fun b9 w9 hs9 hb9 hB9 =>
    xl rfl <| o_stores (us := [vcl, .int .i64 0, .slice none 0 0, .slice none 0 0]) hB9 rfl rfl rfl rfl ⟨hclA.one, rfl, rfl, rfl, trivial⟩ fun w10 hs10 hB10 => xe ?_
  have hs810 : Step [] w8 w10 := hs9.then1 hs10 hb9
  have hs610 := hs8.trans hs810
  have hW10 := hW6.trans hs610
  have hT10 : Tups [] w10.heap vt qs := ((hqs [] (by simp)).ext hs46).ext hs610
  have hz8 := hs8.size
  have hz810 := hs810.size
  have hl9 := hB10.lt
  have hclt := own_lt hcl
  refine W_seq <| W_region (by rfl) ?_
  refine x (r_loadsB (hB26.ext hs610) rfl rfl) <| x (r_loadsB (hB36.ext hs610) rfl rfl) <| x r_move <| xl rfl <| xf <| (classes_ok ((hp.ext hW10).up (L' := []) (fun _ hb => by cases hb)) ((hsA.ext hW10).up (L' := []) (fun _ hb => by cases hb)) o1 o2 hT10 (fun q hq => hv q.2 (by rw [← hqe]; exact List.mem_map_of_mem hq)) hqsl).mono ?_
  rintro r11 w11 ⟨hs11, vk, vl, rfl, hK, hCF, hCb⟩
  refine x r_move <| x (r_extract rfl rfl) <| x (r_extract rfl rfl) <| x r_assign <| x r_assign <| xe ?_
  rw [hqe] at hK hCF hCb
  have hs611 := hs610.trans hs11
  have hW11 := hW10.trans hs11
  have hB411 := hB46.ext hs611
  have hB911 := hB10.ext hs11
  have hz11 := hs11.size
  have hT11 := hT10.ext hs11
  have hcl11 := own_ext hcl (hs810.trans hs11)
  refine W_seq <| W_seq <| W_region (by rfl) ?_
  refine x r_move <| x (r_lenA hT11.arr rfl) <| x (r_eql rfl rfl) <| xe ?_
  refine W_if rfl (fun h47 => ?_) (fun h47 => ?_)
  · have hq0 : opQ aP aS = [] := by rw [← hqe]; have : qs = [] := List.length_eq_zero_iff.1 (by omega); rw [this]; rfl
    rw [if_pos hq0] at hE hAd
    refine W_seq <| W_region (by rfl) ?_
    refine x (r_loadsB hB911 rfl rfl) <| xl rfl <| o_stores (us := [vcl, .int .i64 0, .slice none 0 0, .slice none 0 0]) hB411 rfl rfl rfl rfl ⟨hclA.one, rfl, rfl, rfl, trivial⟩ fun w12 hs12 hB12 => x r_assign <| xe ?_
    refine W_ret ⟨[.agg #[vcl, .int .i64 0, .slice none 0 0, .slice none 0 0], .int .i64 0], ⟨⟨_, rfl, run_loadVar_ag rfl (hB12.at (L := []) (by simp)).cells⟩, rfl, trivial⟩, hW11.then1 hs12 (by omega), _, by rw [hE]; rfl, fun e => absurd hE e, fun _ => ?_⟩
    rw [hAd]
    have hcl12 := own_step hcl11 hs12 (fun b hb => by have := (own_ge hcl b hb).1; simp; omega)
    exact ⟨vcl, _, _, rfl, fun L' hL' => ⟨IntsO.ints hcl12 (by show aS.al.length ≤ _; omega) (fun b hb => by have := hL' b hb; omega), Arr.nil _ _ _, Arr.nil _ _ _⟩⟩
  have hqne : opQ aP aS ≠ [] := fun e => h47 (by rw [← hqe] at e; have := List.map_eq_nil_iff.1 e; rw [this]; rfl)
  rw [if_neg hqne] at hE hAd
  have hn0 : 0 < n := by
    cases hq1 : opQ aP aS with
    | nil => exact absurd hq1 hqne
    | cons t _ =>
      obtain ⟨_, y, _, _, hy⟩ := Vt2 (hv t (by rw [hq1]; exact List.mem_cons_self))
      omega
  -- plain names for what was computed
  refine exE (clsOf aP aS (opQ aP aS)) fun cls hcls => ?_
  refine exE (ctls aP aS (opQ aP aS)) fun l hlE => ?_
  have hll : l.length = n := by rw [← hlE, ctls_len, hnn]
  rw [hcls] at hK hE hAd hlen1 hbd1
  rw [hlE] at hCF hCb hE hAd
  unfold redA at hE hAd
  obtain ⟨cs, hcs, hCs⟩ := hCF
  have hcsl : cs.length = n := by rw [← hcs] at hll; simpa using hll
  have hmaxm := maxI_mem (l := cls) (by omega)
  have hmaxb := hbd1 _ hmaxm
  obtain ⟨S, hS⟩ : ∃ S : Nat, maxI cls + 1 = S := ⟨(maxI cls + 1).toNat, by omega⟩
  rw [hS, Int.toNat_natCast] at hE hAd
  have hKA := IntsO.ints (L := []) hK (by omega) (by simp)
  refine W_skip ?_
  refine W_seq <| W_region (by rfl) ?_
  refine x r_move <| xl rfl <| xf <| (Max_ok hKA (by omega)).mono ?_
  rintro r13 w13 ⟨rfl, rfl⟩
  refine x (r_add rfl rfl ⟨by omega, by omega⟩) <| x (r_fieldB rfl) <| xl rfl <| o_store (u := .int .i64 S) hB911 rfl (congrArg (Value.int .i64) hS) (by simp) rfl fun w14 hs14 hB14 =>
    xe ?_
  refine W_seq <| W_region (by rfl) ?_
  have hB314 := (hB36.ext hs611).step hs14 (by simp; have := hB3.lt; omega)
  have hed14 : Eds [b9] w14.heap se aS.ed := (((hsA.ed.up (L' := [b9]) (fun b hb => .inr (by simp at hb; omega))).ext hW11).st hs14)
  refine xl rfl <| o_makeMap kPair fun b53 w15 hs15 hb53 hm53 => x (r_loadsB (hB314.ext hs15) rfl rfl) <| xl rfl <| xf <| (steps_ok (hed14.ext hs15)).mono ?_
  rintro r16 wS ⟨hs16, bs, rfl, hbs, hms⟩
  refine x r_assign <| x r_assign <| xe ?_
  have hs1416 := hs15.trans hs16
  have hz14 := hs14.size
  have hz15 := hs15.size
  have hz16 := hs16.size
  have hl53 := hm53.lt
  have hlbs := hms.lt
  have hS11 : Step [b9] w13 wS := hs14.trans hs1416
  have hWS : Step [] w wS := hW11.then1 hS11 (by omega)
  -- what is read from here on
  have hKS : Ints [b9, b53] wS.heap vk cls := by
    have h1 : Ints [b9] w13.heap vk cls := IntsO.ints hK (by omega) (fun b hb => by simp at hb; omega)
    have h2 : Ints [b9, b53] w13.heap vk cls := h1.up (fun b hb => by
      simp only [List.mem_cons, List.not_mem_nil, or_false] at hb
      rcases hb with rfl | rfl
      · exact .inl (by simp)
      · exact .inr (by omega))
    exact h2.step hS11 (by simp)
  have hCS : Ctls [b9, b53] wS.heap vl cs := by
    have h1 : Ctls [b9] w13.heap vl cs := hCs [b9] (fun b hb => by simp at hb; omega)
    have h2 : Ctls [b9, b53] w13.heap vl cs := h1.up (fun b hb => by
      simp only [List.mem_cons, List.not_mem_nil, or_false] at hb
      rcases hb with rfl | rfl
      · exact .inl (by simp)
      · exact .inr (by omega))
    exact h2.st (hS11.mono (by simp))
  have halS : Ints [b9, b53] wS.heap sa aS.al := by
    refine (hsA.al.up (L' := [b9, b53]) (fun b hb => .inr ?_)).ext hWS
    simp only [List.mem_cons, List.not_mem_nil, or_false] at hb
    omega
  have hclS : Ints [b9, b53] wS.heap vcl aS.al := by
    have h1 : Ints [] w8.heap vcl aS.al := hclA
    have h2 : Ints [b9, b53] w8.heap vcl aS.al := h1.up (fun b hb => .inr (by
      simp only [List.mem_cons, List.not_mem_nil, or_false] at hb
      omega))
    exact (h2.ext (hs810.trans hs11)).step hS11 (by simp)
  have hBS9 : Blk wS.heap b9 35 [vcl, .int .i64 S, .slice none 0 0, .slice none 0 0] := hB14.ext hs1416
  have hB3S := hB314.ext hs1416
  have hB4S := hB411.step hS11 (by simp; omega)
  have hmS := hm53.ext hs16
  have n3 : b3 ∉ [b9, b53] := by have := hB3.lt; simp; omega
  have n4 : b4 ∉ [b9, b53] := by simp; omega
  have nbs : bs ∉ [b9, b53] := by simp; omega
  refine exE (redZ aS l cls) fun Z hZ => ?_
  rw [hZ] at hE hAd
  unfold redZ at hZ
  rw [hlen1] at hZ
  have hKSn : Arr [b9, b53] wS.heap vk n 1 (cls.map (.int .i64)) := by rw [← hlen1]; exact hKS
  -- marks and edges by class
  refine W_cut (α := Value) [(14, 15), (17, 17), (56, 106)] (fun z => []) (fun z w' => Step [b9, b53] wS w' ∧ Blk w'.heap b9 35 [vcl, .int .i64 S, z, .slice none 0 0] ∧ MapB kPair w'.heap b53 (genc Z.2) ∧ IntsO 3 wS.heap.size w' z Z.1 ∧ Z.1.length ≤ n) (by rfl) ?_ ?_
  · refine W_seq <| W_region (by rfl) ?_
    refine x r_move <| x (r_lenA hKSn rfl) <| x r_move <| xe ?_
    refine W_block <| W_loop (α := Nat × (List Int × List ((Int × Int) × Int)) × Value) [(14, 15), (17, 17), (58, 106)] (fun z => [(58, .int .i64 z.1)])
      (fun z w' => z.1 ≤ n ∧ Step [b9, b53] wS w' ∧ Blk w'.heap b9 35 [vcl, .int .i64 S, z.2.2, .slice none 0 0] ∧ MapB kPair w'.heap b53 (genc z.2.1.2) ∧ IntsO 3 wS.heap.size w' z.2.2 z.2.1.1 ∧ z.2.1.1.length ≤ z.1 ∧
        (List.range' z.1 (n - z.1)).foldl (redX aS l cls) z.2.1 = Z)
      (fun z => n - z.1) (by rfl) (0, ([], []), .slice none 0 0) ⟨rfl, trivial⟩ ⟨Nat.zero_le _, Step.refl _ _, hBS9, hmS, own_nil _ _ _ _, Nat.zero_le _, hZ⟩ ?_
    rintro ⟨i, z, vm⟩ g17 w17 ⟨hi, hs17, hB17, hm17, hv17, hl17, hr17⟩
    simp only [] at hi hB17 hm17 hv17 hl17 hr17
    refine W_seq <| W_region (by rfl) ?_
    refine x (r_lss rfl rfl) <| xe ?_
    refine W_seq <| W_ifn rfl (fun h59 => ?_) (fun h59 => ?_)
    · refine W_exit ?_
      rw [rng_nil (by omega)] at hr17
      have hr17' : z = Z := hr17
      rw [hr17'] at hm17 hv17 hl17
      exact ⟨vm, trivial, hs17, hB17, hm17, hv17, by omega⟩
    have hlt : i < n := by omega
    rw [rng_cons hlt, List.foldl_cons] at hr17
    have hci : i < cls.length := by omega
    have hcv : i < cs.length := by omega
    refine exE (cget cls i) fun c hc => ?_
    have hcb := hbd1 _ (cget_mem hci)
    rw [hc] at hcb
    refine exE (redX aS l cls z i) fun Z1 hZ1 => ?_
    rw [hZ1] at hr17
    unfold redX at hZ1
    rw [hc] at hZ1
    have hlgi : lget l i = (cs[i]'hcv).c := lget_cv hcs hcv
    have hCi := (hCS.st hs17).each _ (List.getElem_mem hcv)
    have hCbi := hCb _ (by rw [← hcs]; exact List.mem_map_of_mem (List.getElem_mem hcv))
    refine exE (cs[i]'hcv) fun ci hcie => ?_
    rw [hcie] at hlgi hCi hCbi
    rw [hlgi] at hZ1
    refine exE (if (ci.c.mk' && ci.c.ps) = true then uni1 z.1 c else z.1) fun mr hmr => ?_
    rw [hmr] at hZ1
    have hul := uni1_len z.1 c
    have hmkc := Bool.eq_false_or_eq_true ci.c.mk'
    have hmrl : mr.length ≤ i + 1 := by rw [← hmr]; split <;> omega
    have hKi := hKS.st hs17
    have hCa := (hCS.st hs17).arr
    have hz17 := hs17.size
    refine W_skip ?_
    refine W_seq <| W_block <| W_seq <| W_region (by rfl) ?_
    refine x r_move <| xic hKi rfl rfl hci fun a61 h61 => ?_
    rw [hc] at h61
    refine x (r_loadA h61 rfl) <| x r_assign <| x r_assign <| xe ?_
    refine W_seq <| W_seq <| W_region (by rfl) ?_
    refine x r_move <| x (r_lss rfl rfl) <| xe ?_
    refine W_if rfl (fun h64 => ?_) (fun h64 => ?_)
    · rw [if_pos h64] at hZ1
      refine W_exit ?_
      refine W_region (by rfl) ?_
      refine x (r_add rfl rfl ⟨by omega, by omega⟩) <| x r_move <| xe ?_
      refine ⟨(i + 1, z, vm), by simp only []; omega, ⟨rfl, trivial⟩, hlt, hs17, hB17, hm17, hv17, by simp only []; omega, ?_⟩
      simp only []
      rw [hZ1]; exact hr17
    rw [if_neg h64] at hZ1
    refine W_skip ?_
    refine W_cut (α := Value) [(65, 82)] (fun z => []) (fun z' w' => Step [b9, b53] wS w' ∧ Blk w'.heap b9 35 [vcl, .int .i64 S, z', .slice none 0 0] ∧ MapB kPair w'.heap b53 (genc z.2) ∧ IntsO 3 wS.heap.size w' z' mr) (by rfl) ?_ ?_
    · refine W_cut (α := Unit) [(65, 76)] (fun _ => [(76, .bool (ci.c.mk' && ci.c.ps))]) (fun _ w' => w' = w17) (by rfl) ?_ ?_
      · refine Or.elim hmkc (fun hm1 => ?_) (fun hm1 => ?_)
        · refine W_region (by rfl) ?_
          refine x r_move <| x r_move <| xig (g := cvCells) (i := i) cv_len hCa rfl rfl hcv fun a67 h67 => ?_
          rw [hcie] at h67
          have h67' : At [b9, b53] w17.heap (a67.add 2) [.bool true] := h67.fld 2 _ (congrArg (fun b => some (Value.bool b)) hm1)
          refine x (r_field rfl) <| x (r_loadA h67' rfl) <| x r_move <| x r_move <| x r_move <| xig (g := cvCells) (i := i) cv_len hCa rfl rfl hcv fun a73 h73 => ?_
          rw [hcie] at h73
          refine x (r_field rfl) <| x (r_loadA (h73.fld 3 _ rfl) rfl) <| x (r_pick rfl) <| xe ?_
          exact ⟨(), ⟨congrArg Value.bool (by rw [hm1]; rfl), trivial⟩, rfl⟩
        · refine W_region (by rfl) ?_
          refine x r_move <| x r_move <| xig (g := cvCells) (i := i) cv_len hCa rfl rfl hcv fun a67 h67 => ?_
          rw [hcie] at h67
          have h67' : At [b9, b53] w17.heap (a67.add 2) [.bool false] := h67.fld 2 _ (congrArg (fun b => some (Value.bool b)) hm1)
          refine x (r_field rfl) <| x (r_loadA h67' rfl) <| x r_move <| xs rfl <| xs rfl <| xs rfl <| xs rfl <| xs rfl <| x (r_pick rfl) <| xe ?_
          exact ⟨(), ⟨congrArg Value.bool (by rw [hm1]; rfl), trivial⟩, rfl⟩
      rintro _ g25 w25 rfl
      refine W_cond rfl (fun h76 => ?_) (fun h76 => ?_)
      rotate_left
      · rw [if_neg (by rw [h76]; simp)] at hmr
        refine W_skip ?_
        exact ⟨vm, trivial, hs17, hB17, hm17, by rw [← hmr]; exact hv17⟩
      rw [if_pos h76] at hmr
      refine W_region (by rfl) ?_
      refine x (r_fieldB rfl) <| x (r_loadB hB17 rfl rfl) <| x r_move <| xl rfl <| o_lits (us := [[.int .i64 c]]) rfl rfl (by decide) (by simp) ⟨rfl, rfl, trivial⟩ fun b80 w26 hs26 hb80 hB80 => ?_
      have hV : Ints [] w26.heap (.slice (some ⟨b80, 0, none⟩) 1 1) [c] := hB80.arr (by simp) rfl (by simp) (by simp)
      refine xl rfl <| xf <| (Union_ok (IntsO.ints (L := []) (own_ext hv17 hs26) (by omega) (by simp)) hV (by simp; omega)).mono ?_
      rintro vU w27 ⟨hs27, hU⟩
      have hs2627 := hs26.trans hs27
      have hUA := IntsO.ints (L := []) (l := uni1 z.1 c) hU (by omega) (by simp)
      refine x (r_fieldB rfl) <| xl rfl <| o_store (u := vU) (hB17.ext hs2627) rfl rfl (by simp) hUA.one fun w28 hs28 hB28 =>
        xe ?_
      have hz26 := hs26.size
      have hU' : IntsO 3 wS.heap.size w27 vU (uni1 z.1 c) := own_base hU (by omega)
      refine ⟨vU, trivial, (hs17.trans hs2627).then hs28 (fun b hb => .inl (by simp at hb; simp [hb])), hB28, (hm17.ext hs2627).step hs28 (by simp; omega), ?_⟩
      rw [← hmr]
      exact own_step hU' hs28 (fun b hb => by have := (own_ge hU' b hb).1; simp; omega)
    rintro vm2 g29 w29 ⟨hs29, hB29, hm29, hv29⟩
    have hCa29 := (hCS.st hs29).arr
    have hen := ((hCS.st hs29).each _ (List.getElem_mem hcv)).en
    rw [hcie] at hen
    refine W_seq <| W_region (by rfl) ?_
    refine x r_move <| x r_move <| xig (g := cvCells) (i := i) cv_len hCa29 rfl rfl hcv fun a85 h85 => ?_
    rw [hcie] at h85
    refine x (r_field rfl) <| x (r_loadA (h85.fld 0 _ rfl) rfl) <| x (r_lenA hen rfl) <|
      x r_move <| xe ?_
    refine W_block <| W_loop (α := Nat × List ((Int × Int) × Int)) [(17, 17), (89, 105)] (fun z => [(89, .int .i64 z.1)])
      (fun y w' => y.1 ≤ ci.c.en.length ∧ Step [b53] w29 w' ∧ MapB kPair w'.heap b53 (genc y.2) ∧ (ci.c.en.drop y.1).foldl (redE aS cls i) y.2 = Z1.2) (fun y => ci.c.en.length - y.1) (by rfl) (0, z.2) ⟨rfl, trivial⟩
      ⟨Nat.zero_le _, Step.refl _ _, hm29, by rw [← hZ1]; rfl⟩ ?_
    rintro ⟨j, m⟩ g30 w30 ⟨hj, hs30, hm30, hr30⟩
    simp only [] at hj hm30 hr30
    have hs30' : Step [b9, b53] wS w30 := hs29.then hs30 (fun b hb => .inl (by simp at hb; simp [hb]))
    refine W_seq <| W_region (by rfl) ?_
    refine x (r_lss rfl rfl) <| xe ?_
    refine W_seq <| W_ifn rfl (fun h90 => ?_) (fun h90 => ?_)
    · refine W_exit ?_
      refine W_region (by rfl) ?_
      refine x (r_add rfl rfl ⟨by omega, by omega⟩) <| x r_move <| xe ?_
      rw [List.drop_of_length_le (by omega)] at hr30
      have hr30' : m = Z1.2 := hr30
      have hmr' : mr = Z1.1 := by rw [← hZ1]
      refine ⟨(i + 1, Z1, vm2), by simp only []; omega, ⟨rfl, trivial⟩, hlt, hs30', hB29.step hs30 (by simp; omega), ?_, ?_, ?_, hr17⟩
      · simp only []; rw [← hr30']; exact hm30
      · simp only []; rw [← hmr']; exact own_step hv29 hs30 (fun b hb => by have := (own_ge hv29 b hb).1; simp; omega)
      · simp only []; rw [← hmr']; exact hmrl
    have hltj : j < ci.c.en.length := by omega
    rw [List.drop_eq_getElem_cons hltj, List.foldl_cons, cget_eq hltj] at hr30
    refine exE (cget ci.c.en j) fun v hv' => ?_
    rw [hv'] at hr30
    have hut := to0_lt hsb hn0 i v
    refine exN hut.1 fun u hu => ?_
    have hre : redE aS cls i m v = gput m (c, v) (cget cls u) := by unfold redE; rw [hc, hu, Int.toNat_natCast]
    rw [hre] at hr30
    have hen30 := hen.step hs30 (X := [b53]) (by simp)
    have hK30 := hKS.st hs30'
    have hms30 := hms.step hs30' nbs
    refine W_skip ?_
    refine W_seq <| W_block <| W_seq <| W_region (by rfl) ?_
    refine xic hen30 rfl rfl hltj fun a91 h91 => ?_
    rw [hv'] at h91
    refine x (r_loadA h91 rfl) <| x r_assign <| xe ?_
    refine W_region (by rfl) ?_
    refine x r_move <| x r_move <| x r_move <| x (r_build ⟨rfl, rfl, trivial⟩) <| x r_move <| x r_move <| x r_move <| x r_move <| x (r_build ⟨rfl, rfl, trivial⟩) <|
      x (r_lookT hms30 o2.edi hu rfl rfl) <| xic (i := u) hK30 rfl rfl (by omega) fun a103 h103 => x (r_loadA h103 rfl) <| xl rfl <| o_update (k := (c, v)) hm30 rfl rfl fun w31 hs31 hm31 =>
      xe ?_
    refine W_region (by rfl) ?_
    refine x (r_add rfl rfl ⟨by omega, by omega⟩) <| x r_move <| xe ?_
    refine ⟨(j + 1, gput m (c, v) (cget cls u)), by simp only []; omega, ⟨rfl, trivial⟩, hltj, hs30.trans' hs31, ?_, hr30⟩
    simp only []
    rw [← genc_put]; exact hm31
  rintro vm g17 w17 ⟨hs17, hB17, hm17, hv17, hl17⟩
  -- the edges
  have hz17 := hs17.size
  refine exE (redR Z.2 aS.al S) fun E hEd => ?_
  rw [hEd] at hE hAd
  unfold redR at hEd
  have hal17 := halS.st hs17
  have hvlt := own_lt hv17
  refine W_seq <| W_seq <| W_region (by rfl) ?_
  refine x (r_fieldB rfl) <| x (r_loadB hB17 rfl rfl) <| x r_move <| xe ?_
  refine W_block <| W_loop (α := Nat × List Ed × Value) [(18, 18), (20, 22), (109, 138)] (fun z => [(109, .int .i64 z.1)])
    (fun z w' => z.1 ≤ S ∧ Step [b9] w17 w' ∧ Blk w'.heap b9 35 [vcl, .int .i64 S, vm, z.2.2] ∧ EdsO 93 w17.heap.size w' z.2.2 z.2.1 ∧ z.2.1.length ≤ z.1 * 32 ∧ z.2.1 ++ (List.range' z.1 (S - z.1)).flatMap (fun c => aS.al.filterMap (redF Z.2 c)) = E)
    (fun z => S - z.1) (by rfl) (0, [], .slice none 0 0) ⟨rfl, trivial⟩ ⟨Nat.zero_le _, Step.refl _ _, hB17, own_nil _ _ _ _, Nat.zero_le _, hEd⟩ ?_
  rintro ⟨k, es, vd⟩ g18 w18 ⟨hk, hs18, hB18, hd18, hdl, hr18⟩
  simp only [] at hk hB18 hd18 hdl hr18
  have hz18 := hs18.size
  refine W_seq <| W_region (by rfl) ?_
  refine x (r_lss rfl rfl) <| xe ?_
  refine W_seq <| W_ifn rfl (fun h110 => ?_) (fun h110 => ?_)
  · refine W_exit ?_
    rw [rng_nil (by omega)] at hr18
    have hr18' : es = E := by simpa using hr18
    have hA18 : AutA [] w18.heap vcl vm vd ⟨aS.al, (S : Int), Z.1, E⟩ := by
      refine ⟨?_, ?_, ?_⟩
      · exact ((hclS.st hs17).step hs18 (by simp)).up (fun _ hb => by cases hb)
      · exact IntsO.ints (own_step hv17 hs18 (fun b hb => by have := (own_ge hv17 b hb).1; simp; omega)) (by show Z.1.length ≤ _; omega) (by simp)
      · rw [← hr18']; exact EdsO.eds hd18 (by show es.length ≤ _; omega) (by simp)
    have hW18 : Step [] w w18 := (hWS.then hs17 (fun b hb => .inr (by simp only [List.mem_cons, List.not_mem_nil, or_false] at hb; omega))).then1 hs18 (by omega)
    have hB418 := (hB4S.step hs17 n4).step hs18 (by simp; omega)
    refine W_seq <| W_region (by rfl) ?_
    refine x (r_loadsB hB18 rfl rfl) <| xl rfl <| xf <| (Canonical_ok (a := ⟨aS.al, (S : Int), Z.1, E⟩) hA18).mono ?_
    rintro r19 w19 ⟨hs19, v, rfl, hbad, hgood⟩
    have hshape : ∃ us, v = .agg us.toArray ∧ us.length = 4 ∧ OnesL us := by
      by_cases e : ckA ⟨aS.al, (S : Int), Z.1, E⟩ = 0
      · exact AutF_shape (hgood e)
      · exact ⟨[.slice none 0 0, .int .i64 0, .slice none 0 0, .slice none 0 0], hbad e, rfl, rfl, rfl, rfl, rfl, trivial⟩
    obtain ⟨us, hvu, husl, hus⟩ := hshape
    refine x (r_extract rfl rfl) <| x (r_extract rfl rfl) <|
      xl rfl <| o_stores (us := us) (hB418.ext hs19) rfl hvu husl rfl hus fun w20 hs20 hB20 => x r_assign <| xe ?_
    have hzW := hW18.size
    refine W_ret ⟨[.agg us.toArray, .int .i64 (ckA ⟨aS.al, (S : Int), Z.1, E⟩)], ⟨⟨_, rfl, run_loadVar_ag husl (hB20.at (L := []) (by simp)).cells⟩, rfl, trivial⟩, (hW18.trans hs19).then1 hs20 (by omega), v, by rw [hE, hvu]; rfl, fun e => hbad (by rw [hE] at e; exact e), fun e => ?_⟩
    rw [hE] at e
    rw [hAd]
    exact (AutF_st1 (hgood e) (by omega) hs20).mono hzW
  have hlt : k < S := by omega
  rw [rng_cons hlt, List.flatMap_cons, ← List.append_assoc] at hr18
  refine exE (es ++ aS.al.filterMap (redF Z.2 k)) fun E1 hE1 => ?_
  rw [hE1] at hr18
  refine W_skip ?_
  refine W_seq <| W_block <| W_seq <| W_region (by rfl) ?_
  refine x r_move <| x r_assign <| xe ?_
  have hB318 := (hB3S.step hs17 n3).step hs18 (by have := hB3.lt; simp; omega)
  have hal18 := hal17.step hs18 (by simp)
  refine W_seq <| W_region (by rfl) ?_
  refine x (r_fieldB rfl) <| x (r_loadB hB318 rfl rfl) <| x (r_lenA hal18 rfl) <| x r_move <| xe ?_
  refine W_block <| W_loop (α := Nat × List Ed × Value) [(20, 22), (115, 137)] (fun z => [(115, .int .i64 z.1)])
    (fun z w' => z.1 ≤ aS.al.length ∧ Step [b9] w17 w' ∧ Blk w'.heap b9 35 [vcl, .int .i64 S, vm, z.2.2] ∧ EdsO 93 w17.heap.size w' z.2.2 z.2.1 ∧ z.2.1.length ≤ k * 32 + z.1 ∧ z.2.1 ++ (aS.al.drop z.1).filterMap (redF Z.2 k) = E1)
    (fun z => aS.al.length - z.1) (by rfl) (0, es, vd) ⟨rfl, trivial⟩ ⟨Nat.zero_le _, hs18, hB18, hd18, hdl, hE1⟩ ?_
  clear hB18 hd18 hE1 hdl hs18 hz18 hal18 hB318
  rintro ⟨j, fs, ve⟩ g21 w21 ⟨hj, hs21, hB21, hd21, hfl, hr21⟩
  simp only [] at hj hB21 hd21 hfl hr21
  have hz21 := hs21.size
  refine W_seq <| W_region (by rfl) ?_
  refine x (r_lss rfl rfl) <| xe ?_
  refine W_seq <| W_ifn rfl (fun h116 => ?_) (fun h116 => ?_)
  · refine W_exit ?_
    refine W_region (by rfl) ?_
    refine x (r_add rfl rfl ⟨by omega, by omega⟩) <| x r_move <| xe ?_
    rw [List.drop_of_length_le (by omega)] at hr21
    have hr21' : fs = E1 := by simpa using hr21
    refine ⟨(k + 1, fs, ve), by simp only []; omega, ⟨rfl, trivial⟩, hlt, hs21, hB21, hd21, by simp only []; omega, ?_⟩
    simp only []
    rw [hr21']; exact hr18
  have hltj : j < aS.al.length := by omega
  rw [List.drop_eq_getElem_cons hltj, cget_eq hltj] at hr21
  refine exE (cget aS.al j) fun v hv' => ?_
  rw [hv', List.filterMap_cons] at hr21
  have hal21 := hal17.step hs21 (by simp)
  have hm21 := hm17.step hs21 (by simp; omega)
  refine gget_elim Z.2 ((k : Int), v) (fun hg1 hg2 => ?_) (fun t hg1 hg2 => ?_)
  · have hrf : redF Z.2 k v = none := by unfold redF; rw [hg2]; rfl
    rw [hrf] at hr21
    refine W_skip ?_
    refine W_seq <| W_block <| W_seq <| W_region (by rfl) ?_
    refine xic hal21 rfl rfl hltj fun a117 h117 => ?_
    rw [hv'] at h117
    refine x (r_loadA h117 rfl) <| x r_assign <| xe ?_
    refine W_seq <| W_region (by rfl) ?_
    refine x r_move <| x r_move <| x r_move <| x (r_build ⟨rfl, rfl, trivial⟩) <| x (r_lookupN (k := ((k : Int), v)) hm21 rfl rfl hg1) <| x r_move <| x (r_extract rfl rfl) <| x (r_extract rfl rfl) <|
      x r_assign <| x r_assign <| xe ?_
    refine W_seq <| W_region (by rfl) ?_
    refine x r_move <| xe ?_
    refine W_false rfl ?_
    refine W_skip ?_
    refine W_region (by rfl) ?_
    refine x (r_add rfl rfl ⟨by omega, by omega⟩) <| x r_move <| xe ?_
    exact ⟨(j + 1, fs, ve), by simp only []; omega, ⟨rfl, trivial⟩, hltj, hs21, hB21, hd21, by simp only []; omega, hr21⟩
  have hrf : redF Z.2 k v = some ((k : Int), v, t) := by unfold redF; rw [hg2]; rfl
  rw [hrf] at hr21
  refine W_skip ?_
  refine W_seq <| W_block <| W_seq <| W_region (by rfl) ?_
  refine xic hal21 rfl rfl hltj fun a117 h117 => ?_
  rw [hv'] at h117
  refine x (r_loadA h117 rfl) <| x r_assign <| xe ?_
  refine W_seq <| W_region (by rfl) ?_
  refine x r_move <| x r_move <| x r_move <| x (r_build ⟨rfl, rfl, trivial⟩) <| x (r_lookupS (k := ((k : Int), v)) hm21 rfl rfl hg1) <| x r_move <| x (r_extract rfl rfl) <| x (r_extract rfl rfl) <|
    x r_assign <| x r_assign <| xe ?_
  refine W_seq <| W_region (by rfl) ?_
  refine x r_move <| xe ?_
  refine W_true rfl ?_
  refine W_region (by rfl) ?_
  refine x (r_fieldB rfl) <| x (r_loadB hB21 rfl rfl) <| x r_move <| x r_move <| x r_move <| x (r_build ⟨rfl, rfl, rfl, trivial⟩) <| xl rfl <| o_lits (us := [edCells ((k : Int), v, t)]) rfl rfl (by decide) (by exact (by decide : 1 * 3 ≤ 1000000)) ⟨rfl, rfl, trivial⟩ fun b134 w22 hs22 hb134 hB134 => ?_
  have hd22 := own_ext hd21 hs22
  have hz22 := hs22.size
  refine xl rfl <| o_app (news := edCells ((k : Int), v, t)) (L := []) hd22 rfl rfl rfl (hB134.at (by simp)) (fun y hy => by simp only [edCells, List.mem_cons, List.not_mem_nil, or_false] at hy; rcases hy with rfl | rfl | rfl <;> rfl) (by omega) (by omega) fun v23 w23 ho23 hs23 hn23 => ?_
  have ho23' : EdsO 93 w17.heap.size w23 v23 (fs ++ [((k : Int), v, t)]) := EdsO.snoc ho23
  have hB23 := (hB21.ext hs22).step hs23 (own_notin hd21 (by omega))
  refine x (r_fieldB rfl) <| xl rfl <| o_store hB23 rfl rfl (by simp) (EdsO.eds (L := []) ho23' (by simp; omega) (by simp)).one fun w24 hs24 hB24 =>
    xe ?_
  refine W_region (by rfl) ?_
  refine x (r_add rfl rfl ⟨by omega, by omega⟩) <| x r_move <| xe ?_
  have hge21 := own_ge hd21
  refine ⟨(j + 1, fs ++ [((k : Int), v, t)], v23), by simp only []; omega, ⟨rfl, trivial⟩, hltj, ((hs21.trans hs22).then hs23 (fun b hb => .inr (hge21 b hb).1)).trans' hs24, hB24, own_step ho23' hs24 (fun b hb => by have := (own_ge ho23' b hb).1; simp; omega), by simp; omega, ?_⟩
  simp only [List.append_assoc, List.singleton_append]
  exact hr21
end Go.Proofs.YtfhgnlkdcdlblaaDoor
