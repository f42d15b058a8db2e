/- Contract: supervisor.classes. -/
import Derived.Test.YtfhgnlkdcdlblaaDoorCq
namespace Go.Lg
section
variable {P : Program} {f : Fr} {w : World} {d : Option Nat} {ty : Nat} {ps : String} {af : Array Edge} {gd : Option (Nat × Bool)} {κ : Type} [DecidableEq κ]
theorem r_lookup1S {t kt et : Nat} {z : Value} [hm : Mp P t kt et z] {enc : κ → Value} [hk : Key P kt enc] {x y : Operand} {b : Nat} {m : List (κ × Value)} {k : κ} {u : Value} (h : MapB enc w.heap b m) (hx : ev f x = .map (some b)) (hy : ev f y = enc k) (hg : mget m k = some u) :
    (execOp (ev f) ⟨d, .lookup t x y false, ty, ps, af, gd⟩).run P w = .ok (.value u) w := by
  rw [r_lookup1 h hx hy, hg]
end
end Go.Lg
namespace Go.Proofs.YtfhgnlkdcdlblaaDoor
open Go.Lg

/-- The map of the classes met so far. -/
structure NmOk (m : List (Int × Value)) (K : List Int) : Prop where
  g : ∀ c, mget m c = if c ∈ K then some (.int .i64 ((K.idxOf c : Int) - 1)) else none
  len : m.length = K.length
theorem NmOk.add {m : List (Int × Value)} {K : List Int} (h : NmOk m K) {c : Int} (hc : c ∉ K) : NmOk (mput m c (.int .i64 ((K.length : Int) - 1))) (K ++ [c]) := by
  refine ⟨fun d => ?_, ?_⟩
  · rw [mget_mput, h.g d]
    by_cases e : c = d
    · subst e
      rw [if_pos rfl, if_pos (by simp), List.idxOf_append, if_neg hc]; simp
    · rw [if_neg e]
      by_cases hm : d ∈ K
      · rw [if_pos hm, if_pos (by simp [hm]), List.idxOf_append, if_pos hm]
      · rw [if_neg hm, if_neg (by simp [hm, Ne.symm e])]
  · rw [mput_length_new (by rw [h.g c, if_neg hc]), h.len]; simp
theorem bools_flat (l : List Bool) : l.flatMap (fun b => [Value.bool b]) = l.map .bool := by induction l with | nil => rfl | cons a l ih => simp [ih]
theorem occs_len (n : Nat) (q : List (List Int)) : (occs n q).length = n := by
  unfold occs
  have : ∀ (q : List (List Int)) (o : List Bool), (q.foldl (fun o q => o.set (py q).toNat true) o).length = o.length := by
    intro q
    induction q with
    | nil => intro o; rfl
    | cons a q ih => intro o; rw [List.foldl_cons, ih]; simp
  rw [this]; simp
theorem numS_len (z : List Int × List Int) (c : Int) : (numS z c).2.length = z.2.length + 1 := by unfold numS; split <;> simp
theorem nums_len : ∀ (l : List Int) (z : List Int × List Int), (l.foldl numS z).2.length = z.2.length + l.length
  | [], z => by simp
  | c :: l, z => by rw [List.foldl_cons, nums_len l, numS_len]; simp; omega
theorem set_next {l : List Int} {n k : Nat} {u : Int} (hl : l.length = k) (hk : k < n) : (l ++ List.replicate (n - k) 0).set k u = (l ++ [u]) ++ List.replicate (n - (k + 1)) 0 := by
  rw [List.set_append_right _ _ (by omega), hl, Nat.sub_self, show n - k = (n - (k + 1)) + 1 by omega, List.replicate_succ, List.set_cons_zero, List.append_assoc]; rfl

theorem exD {α : Type} (a : α) : ∃ b, a = b := ⟨a, rfl⟩
theorem closeC_len (aS : Aut) (l : List Ctl) : ∀ (f : Nat) (c : List Int), (closeC aS l f c).length = c.length := by
  have e1 : ∀ (z : List Int × Bool) (v : Int) (x y : Nat), (clE aS x y z v).1.length = z.1.length := fun z v x y => by unfold clE; split <;> simp [mergeC_len]
  have e2 : ∀ (E : List Int) (x y : Nat) (z : List Int × Bool), (E.foldl (clE aS x y) z).1.length = z.1.length := by
    intro E x y
    induction E with
    | nil => intro z; rfl
    | cons a E ih => intro z; rw [List.foldl_cons, ih, e1]
  have e3 : ∀ (x : Nat) (z : List Int × Bool) (y : Nat), (clY aS l x z y).1.length = z.1.length := fun x z y => by unfold clY; split; rfl; exact e2 _ _ _ _
  have e4 : ∀ (ys : List Nat) (x : Nat) (z : List Int × Bool), (ys.foldl (clY aS l x) z).1.length = z.1.length := by
    intro ys x
    induction ys with
    | nil => intro z; rfl
    | cons a ys ih => intro z; rw [List.foldl_cons, ih, e3]
  have e5 : ∀ (xs : List Nat) (m : Nat) (z : List Int × Bool), (xs.foldl (clX aS l m) z).1.length = z.1.length := by
    intro xs m
    induction xs with
    | nil => intro z; rfl
    | cons a xs ih => intro z; rw [List.foldl_cons, ih]; unfold clX; exact e4 _ _ _
  have e6 : ∀ (f : Nat) (c : List Int), (closeC aS l f c).length = c.length := by
    intro f
    induction f with
    | zero => intro c; rfl
    | succ f ih =>
      intro c
      rw [closeC]
      have : (pass aS l c).1.length = c.length := by unfold pass; exact e5 _ _ _
      split
      · rw [ih, this]
      · exact this
  exact e6

set_option maxHeartbeats 8000000 in
theorem classes_ok {L : List Nat} {w : World} {pva pvm pve sa sm se vt : Value} {aP aS : Aut} {qs : List TV} (hp : AutA L w.heap pva pvm pve aP) (hs : AutA L w.heap sa sm se aS) (hpo : Okay aP) (hso : Okay aS)
    (ht : Tups L w.heap vt qs) (hq : ∀ q ∈ qs, Vt [aP, aS] q.2) (hqn : qs.length ≤ 4096) :
    Ret Tryd.prog 37 [.agg #[pva, .int .i64 aP.st, pvm, pve], .agg #[sa, .int .i64 aS.st, sm, se], vt] w fun r w' => Step [] w w' ∧ ∃ vo vl, r = .tuple #[vo, vl] ∧
      IntsO 3 w.heap.size w' vo (clsOf aP aS (qs.map (·.2))) ∧ CtlF w.heap.size w'.heap vl (ctls aP aS (qs.map (·.2))) ∧ (∀ c ∈ ctls aP aS (qs.map (·.2)), c.en.length ≤ 1000000 ∧ c.dis.length ≤ 1000000) := by
  obtain ⟨n, hn⟩ : ∃ n : Nat, aS.st = n := ⟨aS.st.toNat, by have := hso.st0; omega⟩
  have hn4 : n ≤ 4096 := by have := hso.st1; omega
  have hnn : aS.st.toNat = n := by omega
  have hsb : StB aS n := fun e he => by have := hso.ed e he; omega
  refine Ret.of_W Tryd.func37 rfl Tryd.ntmps37 Tryd.results37 (by simp) ?_
  refine W_seq <| W_region (by rfl) ?_
  refine xl rfl <| o_box (us := [pva, .int .i64 aP.st, pvm, pve]) rfl fun b3 w1 hs1 hb3 hB3 => xl rfl <| o_box (us := [sa, .int .i64 aS.st, sm, se]) rfl fun b4 w2 hs2 hb4 hB4 => x r_assign <| x r_assign <| xe ?_
  have hs12 := hs1.trans hs2
  refine W_seq <| W_region (by rfl) ?_
  refine x (r_loadsB (hB3.ext hs2) rfl rfl) <| x (r_loadsB hB4 rfl rfl) <| x r_move <| xl rfl <| xf <| (controls_ok (hp.ext hs12) (hs.ext hs12) hpo hso (ht.ext hs12) hq hqn).mono ?_
  rintro r3 w3 ⟨hs3, vl, bo, rfl, hCF, hCb, hbo, hBo⟩
  refine x r_move <| x (r_extract rfl rfl) <| x (r_extract rfl rfl) <| x r_assign <| x r_assign <| xe ?_
  obtain ⟨l, hlE⟩ := exD (ctls aP aS (qs.map (·.2)))
  obtain ⟨os, hos⟩ := exD (occs aS.st.toNat (qs.map (·.2)))
  have hosl : os.length = n := by rw [← hos, occs_len, hnn]
  have hgoal : clsOf aP aS (qs.map (·.2)) = nums (clsA aS l (cls0 os)) := by unfold clsOf; rw [hlE, hos]
  rw [hlE] at hCF hCb
  rw [hos] at hBo
  rw [hgoal, hlE]
  rw [hnn]
  have hCF0 := hCF
  obtain ⟨cs, hcs, hCs⟩ := hCF
  have hcsl : cs.length = n := by
    have : l.length = n := by
      rw [← hlE]; unfold ctls
      have : ∀ (q : List (List Int)) (o : List Ctl), (q.foldl (ctlQ aP aS) o).length = o.length := by
        intro q
        induction q with
        | nil => intro o; rfl
        | cons a q ih => intro o; rw [List.foldl_cons, ih]; simp [ctlQ]
      rw [this]; simp [hnn]
    rw [← hcs] at this; simpa using this
  have hsh : Sht cs := fun c hc => hCb c.c (by rw [← hcs]; exact List.mem_map_of_mem hc)
  have hs23 := hs12.trans hs3
  have hB43 := hB4.ext hs3
  refine W_seq <| W_region (by rfl) ?_
  refine x r_move <| x (r_loadsB hB43 rfl rfl) <| xl rfl <| xf <| (steps_ok (hs.ed.ext hs23)).mono ?_
  rintro r4 w4 ⟨hs4, bs, rfl, hbs, hms⟩
  refine x (r_build ⟨(hCs [] (by simp)).arr.cells, rfl, trivial⟩) <| xl rfl <| o_box (us := [.slice none 0 0, vl, .map (some bs)]) rfl fun bm w5 hs5 hbm hBm =>
    x r_assign <| xe ?_
  have hz1 := hs1.size
  have hz2 := hs2.size
  have hz3 := hs3.size
  have hz4 := hs4.size
  have hz5 := hs5.size
  have hlbs := hms.lt
  have hlbm := hBm.lt
  have hlbo := hBo.lt
  have hs35 := hs4.trans hs5
  have hW5 : Step [] w w5 := hs23.trans hs35
  have hms5 := hms.ext hs5
  -- the merger, whatever its classes
  have mk : ∀ (vc : Value) (cl : List Int) (w' : World), Step [bm] w5 w' → Blk w'.heap bm 133 [vc, vl, .map (some bs)] → IntsO 3 w5.heap.size w' vc cl → Mg w5.heap.size bm bs aS vl cs vc cl w' := by
    intro vc cl w' hst hB hc
    have hge := own_ge hc
    refine ⟨hB, hc, ?_, hms5.step hst (by simp; omega), own_notin hc hlbm, own_notin hc (by omega)⟩
    have h1 : Ctls (bm :: ob vc) w3.heap vl cs := (hCs [] (by simp)).up (fun b hb => .inr (by
      rcases List.mem_cons.1 hb with rfl | hb
      · omega
      · have := (hge b hb).1; omega))
    exact ((h1.ext hs35).st (hst.mono (by simp))).up (fun b hb => .inl (List.mem_cons_of_mem _ hb))
  have hoA : Arr [bm] w5.heap (.slice (some ⟨bo, 0, none⟩) n n) os.length 1 (os.flatMap (fun b => [Value.bool b])) := by
    rw [bools_flat, hosl]
    exact (hBo.ext hs35).arr (by simp; omega) (by simp [hosl]) (by omega) (Nat.le_refl _)
  -- the classes at the start
  refine W_cut (α := Value) [(11, 12), (34, 53)] (fun z => []) (fun z w' => Step [bm] w5 w' ∧ Blk w'.heap bm 133 [z, vl, .map (some bs)] ∧ IntsO 3 w5.heap.size w' z (cls0 os)) (by rfl) ?_ ?_
  · refine W_seq <| W_region (by rfl) ?_
    refine x r_move <| x (r_lenA hoA rfl) <| x r_move <| xe ?_
    refine W_block <| W_loop (α := Nat × Value) [(11, 12), (36, 53)] (fun z => [(36, .int .i64 z.1)])
      (fun z w' => z.1 ≤ os.length ∧ Step [bm] w5 w' ∧ Blk w'.heap bm 133 [z.2, vl, .map (some bs)] ∧ IntsO 3 w5.heap.size w' z.2 ((List.range' 0 z.1).map fun i => if os.getD i false = true then (i : Int) else -1))
      (fun z => os.length - z.1) (by rfl) (0, .slice none 0 0) ⟨rfl, trivial⟩ ⟨Nat.zero_le _, Step.refl _ _, hBm, own_nil _ _ _ _⟩ ?_
    rintro ⟨k, vc⟩ g w6 ⟨hk, hs6, hB6, ho6⟩
    simp only [] at hk hB6 ho6
    have hz6 := hs6.size
    refine W_seq <| W_region (by rfl) ?_
    refine x (r_lss rfl rfl) <| xe ?_
    refine W_seq <| W_ifn rfl (fun h37 => ?_) (fun h37 => ?_)
    · refine W_exit ?_
      have hke : k = os.length := by omega
      rw [hke] at ho6
      exact ⟨vc, trivial, hs6, hB6, ho6⟩
    have hlt : k < os.length := by omega
    obtain ⟨is, his⟩ := exD (os[k]'hlt)
    have hg : os.getD k false = is := by rw [← his]; simp [List.getD, hlt]
    obtain ⟨q, hq'⟩ := exD ((if is = true then (k : Int) else -1))
    have hoA6 := hoA.st hs6
    refine W_skip ?_
    refine W_seq <| W_block <| W_seq <| W_region (by rfl) ?_
    refine x r_move <| xig (g := fun b => [Value.bool b]) (fun _ => rfl) hoA6 rfl rfl hlt fun a39 h39 => ?_
    rw [his] at h39
    refine x (r_loadA h39 rfl) <| x r_assign <| x r_assign <| xe ?_
    refine W_cut (α := Unit) [(11, 11), (41, 42)] (fun z => [(11, .int .i64 q)]) (fun z w' => w' = w6) (by rfl) ?_ ?_
    · refine W_seq <| W_region (by rfl) ?_
      refine x r_move <| x (r_not rfl) <| xe ?_
      refine W_cond rfl (fun h42 => ?_) (fun h42 => ?_)
      · refine W_region (by rfl) ?_
        refine x r_assign <| xe ?_
        have e : is = false := by simpa using h42
        exact ⟨(), ⟨congrArg (Value.int .i64) (by rw [← hq', if_neg (by rw [e]; simp)]), trivial⟩, rfl⟩
      · refine W_skip ?_
        have e : is = true := by simpa using h42
        exact ⟨(), ⟨congrArg (Value.int .i64) (by rw [← hq', if_pos e]), trivial⟩, rfl⟩
    rintro _ g2 w7 rfl
    refine W_region (by rfl) ?_
    refine x r_move <| x r_move <| x (r_nilCheck rfl) <| x (r_fieldB rfl) <| x (r_loadB hB6 rfl rfl) <| x r_move <| xl rfl <| o_lits (us := [[.int .i64 q]]) rfl rfl (by decide) (by simp) ⟨rfl, rfl, trivial⟩ fun b49 w8 hs8 hb49 hB49 => ?_
    have ho8 := own_ext ho6 hs8
    have hz8 := hs8.size
    have hlenr : ((List.range' 0 k).map fun i => if os.getD i false = true then (i : Int) else -1).length = k := by simp
    refine xl rfl <| o_app (news := [.int .i64 q]) (L := []) ho8 rfl rfl rfl (hB49.at (by simp)) (by simp [Value.oneCell']) (by omega) (by omega) fun v9 w9 ho9 hs9 hn9 => ?_
    have ho9' := IntsO.snoc ho9
    have hB9 := (hB6.ext hs8).step hs9 (own_notin ho6 hlbm)
    refine x (r_nilCheck rfl) <| x (r_fieldB rfl) <| xl rfl <| o_store hB9 rfl rfl (by simp) (IntsO.ints (L := []) ho9' (by simp; omega) (by simp)).one fun w10 hs10 hB10 => xe ?_
    refine W_region (by rfl) ?_
    refine x (r_add rfl rfl ⟨by omega, by omega⟩) <| x r_move <| xe ?_
    have hge6 := own_ge ho6
    refine ⟨(k + 1, v9), by simp only []; omega, ⟨rfl, trivial⟩, hlt, ((hs6.trans hs8).then hs9 (fun b hb => .inr (hge6 b hb).1)).trans' hs10, hB10, ?_⟩
    simp only []
    rw [List.range'_1_concat, List.map_append, List.map_singleton, Nat.zero_add, hg, hq']
    exact own_step ho9' hs10 (fun b hb => by have := (own_ge ho9' b hb).1; simp; omega)
  rintro vc0 g5 w6 ⟨hs6, hB6, ho6⟩
  have hc0l : (cls0 os).length = n := by simp [cls0, hosl]
  obtain ⟨CL, hCL⟩ := exD (clsA aS l (cls0 os))
  rw [hCL]
  unfold clsA at hCL
  rw [hc0l] at hCL
  generalize cls0 os = c0 at hc0l ho6 hCL
  -- merging
  refine W_cut (α := Value) [(13, 15), (54, 126)] (fun z => []) (fun z w' => Step [bm] w5 w' ∧ Blk w'.heap bm 133 [z, vl, .map (some bs)] ∧ IntsO 3 w5.heap.size w' z CL ∧ CL.length = n) (by rfl) ?_ ?_
  · have hI6 := IntsO.ints (L := []) ho6 (by omega) (by simp)
    have hI6n : Arr [] w6.heap vc0 n 1 (c0.map (.int .i64)) := by rw [← hc0l]; exact hI6
    refine W_seq <| W_region (by rfl) ?_
    refine x r_move <| x (r_nilCheck rfl) <| x (r_fieldB rfl) <| x (r_loadB hB6 rfl rfl) <| x (r_lenA hI6n rfl) <| x r_move <| xe ?_
    refine W_block <| W_loop (α := Nat × Value × List Int) [(13, 15), (59, 126)] (fun z => [(59, .int .i64 z.1)])
      (fun z w' => z.1 ≤ n ∧ Step [bm] w5 w' ∧ Blk w'.heap bm 133 [z.2.1, vl, .map (some bs)] ∧ IntsO 3 w5.heap.size w' z.2.1 z.2.2 ∧ z.2.2.length = n ∧ (List.range' z.1 (n - z.1)).foldl (tryX aS l n) z.2.2 = CL)
      (fun z => n - z.1) (by rfl) (0, vc0, c0) ⟨rfl, trivial⟩ ⟨Nat.zero_le _, hs6, hB6, ho6, hc0l, hCL⟩ ?_
    rintro ⟨i, vc, cl⟩ g7 w7 ⟨hi, hs7, hB7, ho7, hl7, hr7⟩
    simp only [] at hi hB7 ho7 hl7 hr7
    refine W_seq <| W_region (by rfl) ?_
    refine x (r_lss rfl rfl) <| xe ?_
    refine W_seq <| W_ifn rfl (fun h60 => ?_) (fun h60 => ?_)
    · refine W_exit ?_
      rw [rng_nil (by omega)] at hr7
      have hr7' : cl = CL := hr7
      rw [hr7'] at ho7 hl7
      exact ⟨vc, trivial, hs7, hB7, ho7, hl7⟩
    have hlt : i < n := by omega
    rw [rng_cons hlt, List.foldl_cons] at hr7
    obtain ⟨C1, hC1⟩ := exD (tryX aS l n cl i)
    rw [hC1] at hr7
    unfold tryX at hC1
    refine W_skip ?_
    refine W_seq <| W_block <| W_seq <| W_region (by rfl) ?_
    refine x r_move <| x r_assign <| xe ?_
    refine W_seq <| W_region (by rfl) ?_
    refine x r_move <| x (r_add rfl rfl ⟨by omega, by omega⟩) <| x r_assign <| xe ?_
    refine W_block <| W_loop (α := Nat × Value × List Int) [(14, 15), (64, 125)] (fun z => [(14, .int .i64 z.1)])
      (fun z w' => z.1 ≤ n ∧ Step [bm] w5 w' ∧ Blk w'.heap bm 133 [z.2.1, vl, .map (some bs)] ∧ IntsO 3 w5.heap.size w' z.2.1 z.2.2 ∧ z.2.2.length = n ∧ (List.range' z.1 (n - z.1)).foldl (fun c y => tryC aS l c i y) z.2.2 = C1)
      (fun z => n - z.1) (by rfl) (i + 1, vc, cl) ⟨rfl, trivial⟩ ⟨hlt, hs7, hB7, ho7, hl7, hC1⟩ ?_
    clear hB7 ho7 hl7 hC1 hs7
    rintro ⟨j, vd, cm⟩ g8 w8 ⟨hj, hs8, hB8, ho8, hl8, hr8⟩
    simp only [] at hj hB8 ho8 hl8 hr8
    have hM8 := mk vd cm w8 hs8 hB8 ho8
    have hI8 := IntsO.ints (L := []) ho8 (by omega) (by simp)
    have hI8n : Arr [] w8.heap vd n 1 (cm.map (.int .i64)) := by rw [← hl8]; exact hI8
    refine W_seq <| W_seq <| W_region (by rfl) ?_
    refine x r_move <| x r_move <| x (r_nilCheck rfl) <| x (r_fieldB rfl) <| x (r_loadB hB8 rfl rfl) <| x (r_lenA hI8n rfl) <| x (r_lss rfl rfl) <|
      xe ?_
    refine W_ifn rfl (fun h70 => ?_) (fun h70 => ?_)
    · refine W_exit ?_
      refine W_region (by rfl) ?_
      refine x (r_add rfl rfl ⟨by omega, by omega⟩) <| x r_move <| xe ?_
      rw [rng_nil (by omega)] at hr8
      have hr8' : cm = C1 := hr8
      refine ⟨(i + 1, vd, cm), by simp only []; omega, ⟨rfl, trivial⟩, hlt, hs8, hB8, ho8, hl8, ?_⟩
      simp only []
      rw [hr8']; exact hr7
    have hltj : j < n := by omega
    rw [rng_cons hltj, List.foldl_cons] at hr8
    obtain ⟨C2, hC2⟩ := exD (tryC aS l cm i j)
    rw [hC2] at hr8
    unfold tryC at hC2
    have hi8 : i < cm.length := by omega
    have hj8 : j < cm.length := by omega
    refine W_skip ?_
    refine W_seq <| W_block <| W_seq <| W_cut (α := Unit) [(73, 107)] (fun z => [(107, .bool (decide (cget cm i < 0 ∨ cget cm j < 0 ∨ cget cm i = cget cm j)))]) (fun z w' => Step [] w8 w') (by rfl) ?_ ?_
    · refine W_draw (Step [] w8) [(0, true), (1, true), (2, true), (3, true), (4, true), (5, true), (6, true), (7, true), (8, true), (9, true), (10, true), (11, true), (12, true), (13, true), (14, true), (15, true), (16, true), (17, true), (18, true), (19, true), (20, true), (21, true), (22, true), (23, true), (24, true), (25, true), (26, true), (27, true), (28, true), (29, true), (30, true), (31, true), (32, true), (33, true), (34, true)] Tryd.mixed (by rfl) (by kernel_rfl) (Step.drew _ _) ?_
      refine p (fun _ => r_move) <| p (fun _ => r_nilCheck rfl) <| p (fun _ => r_fieldB rfl) <| pq (fun _ hc => r_loadB (hB8.ext hc) rfl rfl) <|
        p (fun _ => r_move) <| pic (i := i) rfl hI8 rfl rfl hi8 fun a78 h78 => pq (fun _ hc => r_loadA (h78.ext hc) rfl) <| pb (fun _ => r_lss rfl rfl) (fun h80 => ?_) (fun h80 => ?_)
      · refine p (fun _ => r_move) <| ps <| ps <| ps <| ps <| ps <| ps <| ps <| ps <| p (fun _ => r_pick rfl) <| p (fun _ => r_move) <| ps <| ps <| ps <| ps <| ps <| ps <| ps <| ps <| ps <| ps <| ps <| ps <| ps <| ps <| ps <| p (fun _ => r_pick rfl) <|
          pe ?_
        exact ⟨(), ⟨congrArg Value.bool (decide_eq_true (.inl h80)).symm, trivial⟩, Step.drew _ _⟩
      refine p (fun _ => r_move) <| p (fun _ => r_move) <| p (fun _ => r_nilCheck rfl) <| p (fun _ => r_fieldB rfl) <| pq (fun _ hc => r_loadB (hB8.ext hc) rfl rfl) <|
        p (fun _ => r_move) <| pic (i := j) rfl hI8 rfl rfl hj8 fun a87 h87 => pq (fun _ hc => r_loadA (h87.ext hc) rfl) <| pb (fun _ => r_lss rfl rfl) (fun h89 => ?_) (fun h89 => ?_)
      · refine p (fun _ => r_pick rfl) <| p (fun _ => r_move) <| ps <| ps <| ps <| ps <| ps <| ps <| ps <| ps <| ps <| ps <| ps <| ps <| ps <| ps <| ps <| p (fun _ => r_pick rfl) <|
          pe ?_
        exact ⟨(), ⟨congrArg Value.bool (decide_eq_true (.inr (.inl h89))).symm, trivial⟩, Step.drew _ _⟩
      refine p (fun _ => r_pick rfl) <| p (fun _ => r_move) <| p (fun _ => r_move) <| p (fun _ => r_nilCheck rfl) <| p (fun _ => r_fieldB rfl) <| pq (fun _ hc => r_loadB (hB8.ext hc) rfl rfl) <|
        p (fun _ => r_move) <| pic (i := i) rfl hI8 rfl rfl hi8 fun a97 h97 => pq (fun _ hc => r_loadA (h97.ext hc) rfl) <| p (fun _ => r_move) <| p (fun _ => r_nilCheck rfl) <|
        p (fun _ => r_fieldB rfl) <| pq (fun _ hc => r_loadB (hB8.ext hc) rfl rfl) <| p (fun _ => r_move) <| pic (i := j) rfl hI8 rfl rfl hj8 fun a104 h104 =>
        pq (fun _ hc => r_loadA (h104.ext hc) rfl) <| p (fun _ => r_eql rfl rfl) <| p (fun _ => r_pick rfl) <| pe ?_
      refine ⟨(), ⟨congrArg Value.bool ?_, trivial⟩, Step.drew _ _⟩
      exact decide_eq_decide.2 ⟨fun e => .inr (.inr e), fun e => (e.resolve_left h80).resolve_left h89⟩
    rintro _ g9 w9 hs9
    have hB9 := hB8.ext hs9
    have ho9 := own_ext ho8 hs9
    have hs89 := hs8.trans hs9
    refine W_if rfl (fun h107 => ?_) (fun h107 => ?_)
    · rw [if_pos h107] at hC2
      refine W_exit ?_
      refine W_region (by rfl) ?_
      refine x r_move <| x (r_add rfl rfl ⟨by omega, by omega⟩) <| x r_assign <| xe ?_
      refine ⟨(j + 1, vd, cm), by simp only []; omega, ⟨rfl, trivial⟩, hltj, hs89, hB9, ho9, hl8, ?_⟩
      simp only []
      rw [hC2]; exact hr8
    rw [if_neg h107] at hC2
    simp only [] at hC2
    rw [hl8] at hC2
    have hml : (mergeC cm i j).length = n := by rw [mergeC_len]; exact hl8
    obtain ⟨D, hD⟩ := exD (closeC aS l (n * n + 1) (mergeC cm i j))
    have hDl : D.length = n := by rw [← hD, closeC_len, hml]
    rw [hD] at hC2
    have hM9 := hM8.ext hs9
    have hI9 := hI8.ext hs9
    refine W_skip ?_
    refine W_seq <| W_region (by rfl) ?_
    refine x r_move <| x (r_nilCheck rfl) <| x (r_fieldB rfl) <| x (r_loadB hB9 rfl rfl) <| xl rfl <| xf <| (clone_ok hI9).mono ?_
    rintro vb w10 ⟨hs10, hob⟩
    refine x r_assign <| xe ?_
    have hM10 := hM9.ext hs10
    have hlt9 := own_lt ho9
    have hgeb := own_ge hob
    have hsep : ∀ b ∈ ob vb, b ∉ ob vd := fun b hb hb' => by have := hlt9 b hb'; have := (hgeb b hb).1; omega
    refine W_seq <| W_region (by rfl) ?_
    refine x r_move <| x r_move <| x r_move <| xl rfl <| xf <| (mmerge_ok hM10 hi8 hj8 (by omega)).mono ?_
    rintro r11 w11 ⟨hs11, ho11⟩
    refine xe ?_
    have hM11 := hM10.st hs11 ho11
    refine W_seq <| W_region (by rfl) ?_
    refine x r_move <| xl rfl <| xf <| (mclose_ok hM11 (by omega) (by omega) hsh hso.edi (by rw [hml]; exact hsb)).mono ?_
    rintro r12 w12 ⟨hs12', ho12⟩
    refine xe ?_
    rw [hcs, hml, hD] at ho12
    have hM12 := hM11.st hs12' ho12
    have hmc := mcons_ok hM12 (by omega) (by omega) hsh
    rw [hcs] at hmc
    refine W_seq <| W_region (by rfl) ?_
    refine x r_move <| xl rfl <| xf <| hmc.mono ?_
    rintro r13 w13 ⟨rfl, hs13⟩
    have hM13 := hM12.ext hs13
    have hge9 := own_ge ho9
    have hstd : Step [bm] w5 w13 := (((hs89.trans hs10).then hs11 (fun b hb => .inr (hge9 b hb).1)).then hs12' (fun b hb => .inr (hge9 b hb).1)).trans hs13
    refine x (r_not rfl) <| xe ?_
    refine W_cond rfl (fun h121 => ?_) (fun h121 => ?_)
    rotate_left
    · have e : consAll l D = true := by simpa using h121
      rw [if_pos e] at hC2
      refine W_skip ?_
      refine W_region (by rfl) ?_
      refine x r_move <| x (r_add rfl rfl ⟨by omega, by omega⟩) <| x r_assign <| xe ?_
      refine ⟨(j + 1, vd, D), by simp only []; omega, ⟨rfl, trivial⟩, hltj, hstd, hM13.B, hM13.c, hDl, ?_⟩
      simp only []
      rw [hC2]; exact hr8
    have e : ¬ consAll l D = true := by simpa using h121
    rw [if_neg e] at hC2
    have hob13 : IntsO 3 w9.heap.size w13 vb cm := own_ext (own_step (own_step hob hs11 hsep) hs12' hsep) hs13
    have hz9 := hs89.size
    refine W_region (by rfl) ?_
    refine x r_move <| x r_move <| x (r_nilCheck rfl) <| x (r_fieldB rfl) <| xl rfl <| o_store hM13.B rfl rfl (by simp) (IntsO.ints (L := []) hob13 (by omega) (by simp)).one fun w14 hs14 hB14 => xe ?_
    refine W_region (by rfl) ?_
    refine x r_move <| x (r_add rfl rfl ⟨by omega, by omega⟩) <| x r_assign <| xe ?_
    refine ⟨(j + 1, vb, cm), by simp only []; omega, ⟨rfl, trivial⟩, hltj, hstd.trans' hs14, hB14, own_base (own_step hob13 hs14 (fun b hb => by have := (hgeb b hb).1; simp; omega)) (by omega), hl8, ?_⟩
    simp only []
    rw [hC2]; exact hr8
  clear hs6 hB6 ho6 hc0l hCL
  rintro vc g7 w7 ⟨hs7, hB7, ho7, hCl⟩
  -- the numbers
  have hz7 := hs7.size
  have hI7 := IntsO.ints (L := []) ho7 (by omega) (by simp)
  have hI7n : Arr [] w7.heap vc n 1 (CL.map (.int .i64)) := by rw [← hCl]; exact hI7
  have hW7 : Step [] w w7 := hW5.then1 hs7 (by omega)
  refine W_seq <| W_region (by rfl) ?_
  refine xl rfl <| o_makeMap kInt fun b127 w8 hs8 hb127 hm127 => xl rfl <| o_insert (k := (-1 : Int)) hm127 rfl rfl fun w9 hs9 hm9 => x r_move <| x r_assign <| xe ?_
  have hs79 : Step [] w7 w9 := hs8.then1 hs9 hb127
  have hz9 := hs79.size
  have hl127 := hm9.lt
  refine W_seq <| W_region (by rfl) ?_
  refine x r_move <| x (r_nilCheck rfl) <| x (r_fieldB rfl) <| x (r_loadB (hB7.ext hs79) rfl rfl) <| x (r_lenA hI7n rfl) <| xl rfl <| o_make (n := n) rfl rfl (by omega) fun b134 w10 hs10 hb134 hB134 =>
    x r_assign <| xe ?_
  have hl134 := hB134.lt
  have hs710 := hs79.trans hs10
  have hz10 := hs10.size
  have hB134' : Blk w10.heap b134 3 ((List.replicate n 0).map (.int .i64)) := by
    rw [List.map_replicate, ← rep_flat]; exact hB134
  have hIr : Ints [b127, b134] w10.heap vc CL := (hI7.up (fun b hb => .inr (by
    simp only [List.mem_cons, List.not_mem_nil, or_false] at hb
    omega))).ext hs710
  have hIrn : Arr [b127, b134] w10.heap vc n 1 (CL.map (.int .i64)) := by rw [← hCl]; exact hIr
  refine W_seq <| W_seq <| W_region (by rfl) ?_
  refine x r_move <| x (r_nilCheck rfl) <| x (r_fieldB rfl) <| x (r_loadB (hB7.ext hs710) rfl rfl) <| x (r_lenA hIrn rfl) <| x r_move <| xe ?_
  have hnm0 : NmOk (mput [] (-1 : Int) (.int .i64 (-1))) [-1] := by
    have h0 : NmOk [] [] := ⟨fun c => rfl, rfl⟩
    exact h0.add (c := -1) (by simp)
  refine W_block <| W_loop (α := Nat × List (Int × Value) × List Int × List Int) [(18, 21), (140, 164)] (fun z => [(140, .int .i64 z.1)])
    (fun z w' => z.1 ≤ n ∧ Step [b127, b134] w10 w' ∧ MapB kInt w'.heap b127 z.2.1 ∧ NmOk z.2.1 z.2.2.1 ∧ z.2.2.1.length ≤ z.1 + 1 ∧ z.2.2.2.length = z.1 ∧ Blk w'.heap b134 3 ((z.2.2.2 ++ List.replicate (n - z.1) 0).map (.int .i64)) ∧ (CL.drop z.1).foldl numS (z.2.2.1, z.2.2.2) = CL.foldl numS ([-1], []))
    (fun z => n - z.1) (by rfl) (0, _, [-1], []) ⟨rfl, trivial⟩ ⟨Nat.zero_le _, Step.refl _ _, hm9.ext hs10, hnm0, by simp, rfl, hB134', rfl⟩ ?_
  rintro ⟨k, m, K, out⟩ g11 w11 ⟨hk, hs11, hm11, hnm, hKl, hol, hB11, hr11⟩
  simp only [] at hk hm11 hnm hKl hol hB11 hr11
  refine W_seq <| W_region (by rfl) ?_
  refine x (r_lss rfl rfl) <| xe ?_
  refine W_seq <| W_ifn rfl (fun h141 => ?_) (fun h141 => ?_)
  · refine W_exit ?_
    refine W_seq <| W_region (by rfl) ?_
    refine x r_move <| x r_move <| x r_assign <| x r_assign <| xe ?_
    have hke : k = n := by omega
    rw [List.drop_of_length_le (by omega)] at hr11
    have hout : nums CL = out := by unfold nums; rw [← hr11]; rfl
    rw [hke, Nat.sub_self, List.replicate_zero, List.append_nil] at hB11
    have hst : Step [] w7 w11 := hs710.then hs11 (fun b hb => .inr (by
      simp only [List.mem_cons, List.not_mem_nil, or_false] at hb
      omega))
    have hst5 : Step [bm] w5 w11 := hs7.trans hst
    refine W_ret ⟨[.slice (some ⟨b134, 0, none⟩) n n, vl], ⟨rfl, rfl, trivial⟩, hW7.trans hst, _, vl, rfl, ?_, ⟨cs, hcs, fun L' hL' => ?_⟩, hCb⟩
    · rw [hout]
      unfold IntsO
      rw [hol, hke]
      exact hB11.own (sz := 1) (by simp; omega) (by omega) (by omega)
    · have h1 : Ctls L' w3.heap vl cs := hCs L' (fun b hb => by have := hL' b hb; omega)
      have h2 : Ctls (bm :: L') w3.heap vl cs := h1.up (fun b hb => by
        rcases List.mem_cons.1 hb with rfl | hb
        · right; omega
        · exact .inl hb)
      exact ((h2.ext hs35).st (hst5.mono (by simp))).up (fun b hb => .inl (List.mem_cons_of_mem _ hb))
  have hlt : k < n := by omega
  have hltC : k < CL.length := by omega
  obtain ⟨c, hc⟩ := exD (cget CL k)
  rw [List.drop_eq_getElem_cons hltC, List.foldl_cons, cget_eq hltC, hc] at hr11
  have hI11 := hIr.st hs11
  refine W_skip ?_
  refine W_seq <| W_block <| W_seq <| W_region (by rfl) ?_
  refine x r_move <| xic hI11 rfl rfl hltC fun a143 h143 => ?_
  rw [hc] at h143
  refine x (r_loadA h143 rfl) <| x r_assign <| x r_assign <| xe ?_
  obtain ⟨K', hK'⟩ := exD ((if c ∈ K then K else K ++ [c]))
  have hin : c ∈ K' := by rw [← hK']; split; assumption; simp
  have hnum : numS (K, out) c = (K', out ++ [(K'.idxOf c : Int) - 1]) := by
    unfold numS
    rw [← hK']
    by_cases e : c ∈ K
    · simp only [if_pos e]
    · simp only [if_neg e]; rw [List.idxOf_append, if_neg e]; simp
  rw [hnum] at hr11
  have hKl' : K'.length ≤ k + 1 + 1 := by rw [← hK']; split; omega; simp; omega
  refine W_cut (α := List (Int × Value)) [(20, 21), (145, 157)] (fun z => []) (fun z w' => Step [b127] w11 w' ∧ MapB kInt w'.heap b127 z ∧ NmOk z K') (by rfl) ?_ ?_
  · have hg := hnm.g c
    by_cases hcK : c ∈ K
    · rw [if_pos hcK] at hg hK'
      refine W_seq <| W_region (by rfl) ?_
      refine x r_move <| x r_move <| x (r_lookupS hm11 rfl rfl hg) <| x r_move <| x (r_extract rfl rfl) <| x (r_extract rfl rfl) <| x r_assign <| x r_assign <| xe ?_
      refine W_seq <| W_region (by rfl) ?_
      refine x r_move <| x (r_not rfl) <| xe ?_
      refine W_false rfl ?_
      refine W_skip ?_
      exact ⟨m, trivial, Step.refl _ _, hm11, by rw [← hK']; exact hnm⟩
    · rw [if_neg hcK] at hg hK'
      refine W_seq <| W_region (by rfl) ?_
      refine x r_move <| x r_move <| x (r_lookupN hm11 rfl rfl hg) <| x r_move <| x (r_extract rfl rfl) <| x (r_extract rfl rfl) <| x r_assign <| x r_assign <| xe ?_
      refine W_seq <| W_region (by rfl) ?_
      refine x r_move <| x (r_not rfl) <| xe ?_
      refine W_true rfl ?_
      have hml := hnm.len
      refine W_region (by rfl) ?_
      refine x r_move <| x r_move <| x r_move <| x (r_lenM hm11 rfl) <| x (r_sub rfl rfl ⟨by omega, by omega⟩) <| xl rfl <| o_update (k := c) hm11 rfl rfl fun w12 hs12 hm12 =>
        xe ?_
      refine ⟨mput m c (.int .i64 ((K.length : Int) - 1)), trivial, hs12, ?_, by rw [← hK']; exact hnm.add hcK⟩
      rw [← hml]; exact hm12
  rintro m' g13 w13 ⟨hs13, hm13, hnm'⟩
  have hg := hnm'.g c
  rw [if_pos hin] at hg
  have hB13 := hB11.step hs13 (by simp; omega)
  refine W_region (by rfl) ?_
  refine x r_move <| x r_move <| x r_move <| x r_move <| x (r_lookup1S hm13 rfl rfl hg) <| x (r_indexB (i := k) rfl rfl hlt) <| xl rfl <| o_storeI (u := (K'.idxOf c : Int) - 1) hB13 rfl rfl (by simp; omega) fun w14 hs14 hB14 =>
    xe ?_
  refine W_region (by rfl) ?_
  refine x (r_add rfl rfl ⟨by omega, by omega⟩) <| x r_move <| xe ?_
  refine ⟨(k + 1, m', K', out ++ [(K'.idxOf c : Int) - 1]), by simp only []; omega, ⟨rfl, trivial⟩, hlt, (hs11.then hs13 (fun b hb => .inl (by simp at hb; simp [hb]))).then hs14 (fun b hb => .inl (by simp at hb; simp [hb])), hm13.step hs14 (by simp; omega), hnm', hKl', by simp [hol], ?_, hr11⟩
  simp only []
  rw [← set_next hol hlt]; exact hB14
end Go.Proofs.YtfhgnlkdcdlblaaDoor
