/- Merged out of 11 texts. -/
import Derived.Test.YtfhgnlkdcdlblaaDoorKcd
import Derived.Test.YtfhgnlkdcdlblaaDoorKca
import Derived.ChangeSame
import Derived.Carry
import Derived.OpenShut
import Derived.RowKit
import Derived.Test.YtfhgnlkdcdlblaaDoorKcc
import Derived.ChangeSlices
import Derived.WideShapes
import Derived.ProofKit
/- SupervisorReduces, plain law, part 2: the passes of the program and of the law. -/
namespace Go.Proofs.YtfhgnlkdcdlblaaDoor
open Go.Lg

section
variable {s : Aut} {l : List Ctl} {n : Nat}
/-! ### The program -/
theorem clE_flag {x y : Nat} : ∀ (vs : List Int) (z : List Int × Bool), (vs.foldl (clE s x y) z).2 = false → ∀ v ∈ vs, cget z.1 (to0 s x v).toNat = cget z.1 (to0 s y v).toNat
  | [], _, _, v, hv => by cases hv
  | v :: vs, z, h, u, hu => by
    rw [List.foldl_cons] at h
    have key : ∀ (ws : List Int) (q : List Int × Bool), q.2 = true → (ws.foldl (clE s x y) q).2 = true := by
      intro ws
      induction ws with
      | nil => intro q hq; exact hq
      | cons w ws ih =>
        intro q hq
        rw [List.foldl_cons]
        refine ih _ ?_
        unfold clE; split
        · rfl
        · exact hq
    have hc : cget z.1 (to0 s x v).toNat = cget z.1 (to0 s y v).toNat := by
      by_cases e : cget z.1 (to0 s x v).toNat = cget z.1 (to0 s y v).toNat
      · exact e
      · have h1 : clE s x y z v = (mergeC z.1 (to0 s x v).toNat (to0 s y v).toNat, true) := by unfold clE; rw [if_pos e]
        rw [h1, key _ _ rfl] at h; cases h
    have h2 : clE s x y z v = z := by unfold clE; rw [if_neg (fun e => e hc)]
    rw [h2] at h
    rcases List.mem_cons.1 hu with rfl | hu
    · exact hc
    · exact clE_flag vs z h u hu
/-- The lists of enabled events are sets. -/
def IncL (l : List Ctl) (n : Nat) : Prop := ∀ x, x < n → Inc (lget l x).en
theorem clY_stps (hi : IncL l n) {x : Nat} (hx : x < n) (z : List Int × Bool) (y : Nat) (hy : y < n) (hl : z.1.length = n) (ho : Occ s l n z.1) : Stps s l n z (clY s l x z y) := by
  unfold clY
  split
  · exact .refl
  · rename_i h
    refine clE_fold _ z hl hx hy (by omega) (by omega) ho fun e he => ?_
    exact (mem_meets (hi x hx) (hi y hy) e).1 he
/-- x and y lead alike. -/
def Alk (s : Aut) (l : List Ctl) (c : List Int) (x y : Nat) : Prop := 0 ≤ cget c x → cget c x = cget c y → ∀ e, e ∈ (lget l x).en → e ∈ (lget l y).en → cget c (to0 s x e).toNat = cget c (to0 s y e).toNat
theorem clY_flag (hi : IncL l n) {x : Nat} (hx : x < n) (z : List Int × Bool) (y : Nat) (hy : y < n) (h : (clY s l x z y).2 = false) : Alk s l z.1 x y := by
  intro h0 h1 e he1 he2
  unfold clY at h
  rw [if_neg (by omega)] at h
  exact clE_flag _ z h e ((mem_meets (hi x hx) (hi y hy) e).2 ⟨he1, he2⟩)
theorem clX_stps (hi : IncL l n) (z : List Int × Bool) (x : Nat) (hx : x < n) (hl : z.1.length = n) (ho : Occ s l n z.1) : Stps s l n z (clX s l n z x) := by
  unfold clX
  exact fold_stps (P := fun y => y < n) (fun z y hy hl ho => clY_stps hi hx z y hy hl ho) _ z (fun y hy => by rw [List.mem_range'_1] at hy; omega) hl ho
theorem clX_flag (hi : IncL l n) (z : List Int × Bool) (x : Nat) (hx : x < n) (hl : z.1.length = n) (ho : Occ s l n z.1) (h : (clX s l n z x).2 = false) : ∀ y, x < y → y < n → Alk s l z.1 x y := by
  unfold clX at h
  intro y hy hyn
  exact (fold_flag (P := fun y => y < n) (T := fun c y => Alk s l c x y) (fun z y hy hl ho => clY_stps hi hx z y hy hl ho) (fun z y hy _ _ h => clY_flag hi hx z y hy h) _ z (fun y hy => by rw [List.mem_range'_1] at hy; omega) hl ho h).2 y (by rw [List.mem_range'_1]; omega)
theorem pass_stps (hi : IncL l n) (c : List Int) (hl : c.length = n) (ho : Occ s l n c) : Stps s l n (c, false) (pass s l c) := by
  unfold pass
  rw [hl]
  exact fold_stps (P := fun y => y < n) (fun z y hy hl ho => clX_stps hi z y hy hl ho) _ _ (fun y hy => by rw [List.mem_range'_1] at hy; omega) hl ho
theorem Alk.symm {c : List Int} {x y : Nat} (h : Alk s l c x y) : Alk s l c y x := fun h0 h1 e h2 h3 => (h (by omega) h1.symm e h3 h2).symm
theorem clsd_of_alk {c : List Int} (h : ∀ x y, x < y → y < n → Alk s l c x y) : Clsd s l n c := by
  rintro u t ⟨x, y, e, h1, h2, h3, h4, h5, h6, rfl, rfl⟩
  rcases Nat.lt_trichotomy x y with hlt | heq | hgt
  · exact h x y hlt h2 h3 h4 e h5 h6
  · subst heq; rfl
  · exact (h y x hgt h1).symm h3 h4 e h5 h6
theorem pass_flag (hi : IncL l n) (c : List Int) (hl : c.length = n) (ho : Occ s l n c) (h : (pass s l c).2 = false) : (pass s l c).1 = c ∧ Clsd s l n c := by
  have h0 := h
  unfold pass at h
  rw [hl] at h
  have := fold_flag (P := fun y => y < n) (T := fun c x => ∀ y, x < y → y < n → Alk s l c x y) (fun z y hy hl ho => clX_stps hi z y hy hl ho) (fun z x hx hl ho h => clX_flag hi z x hx hl ho h) _ (c, false) (fun y hy => by rw [List.mem_range'_1] at hy; omega) hl ho h
  refine ⟨?_, clsd_of_alk fun x y hxy hy => this.2 x (by rw [List.mem_range'_1]; omega) y hxy hy⟩
  unfold pass
  rw [hl, this.1]
/-- What a closure is. -/
structure Clo2 (s : Aut) (l : List Ctl) (n : Nat) (c d : List Int) : Prop where
  len : d.length = n
  sg : ∀ x, x < n → (cget d x < 0 ↔ cget c x < 0)
  up : Rf n c d
  dn : ∀ e, Clsd s l n e → (∀ x, x < n → (cget e x < 0 ↔ cget c x < 0)) → Rf n c e → Rf n d e
  cl : Clsd s l n d
theorem Clo2.of_kp {c d : List Int} {z : List Int × Bool} (k : Kp s l n (c, false) z) (h : Clo2 s l n z.1 d) : Clo2 s l n c d :=
  ⟨h.len, fun x hx => (h.sg x hx).trans (k.sg x hx), k.up.trans h.up, fun e he hs hr => h.dn e he (fun x hx => (hs x hx).trans (k.sg x hx).symm) (k.dn e he hs hr), h.cl⟩
theorem closeC_spec (hi : IncL l n) : ∀ (f : Nat) (c : List Int), c.length = n → Occ s l n c → uneq c < f → Clo2 s l n c (closeC s l f c)
  | 0, _, _, _, h => by omega
  | f + 1, c, hl, ho, hf => by
    have hs := pass_stps hi c hl ho
    have k := hs.kp hl ho
    rw [closeC]
    cases hp : (pass s l c).2 with
    | false =>
      obtain ⟨h1, h2⟩ := pass_flag hi c hl ho hp
      rw [if_neg (by simp), h1]
      exact ⟨hl, fun _ _ => Iff.rfl, Rf.refl _ _, fun _ _ _ h => h, h2⟩
    | true =>
      rw [if_pos rfl]
      have hu : uneq (pass s l c).1 < uneq c := by
        rcases k.un with h | h
        · rw [h] at hp; cases hp
        · exact h
      exact Clo2.of_kp k (closeC_spec hi f _ k.len (ho.of k.sg) (by omega))

/-! ### The law -/
def lwE (s : Aut) (l : List Ctl) (x y : Nat) (z : List Int × Bool) (e : Int) : List Int × Bool :=
  if e ∉ (lget l y).en then z else if cget z.1 (nxt s.ed x e).toNat ≠ cget z.1 (nxt s.ed y e).toNat then (joinC z.1 (nxt s.ed x e).toNat (nxt s.ed y e).toNat, true) else z
def lwY (s : Aut) (l : List Ctl) (x : Nat) (z : List Int × Bool) (y : Nat) : List Int × Bool :=
  if cget z.1 x < 0 ∨ cget z.1 x ≠ cget z.1 y then z else (lget l x).en.foldl (lwE s l x y) z
def lwX (s : Aut) (l : List Ctl) (z : List Int × Bool) (x : Nat) : List Int × Bool := (List.range' 0 x).foldl (lwY s l x) z
def lwPass (s : Aut) (l : List Ctl) (c : List Int) : List Int × Bool := (List.range' 0 c.length).foldl (lwX s l) (c, false)
def lwClose (s : Aut) (l : List Ctl) : Nat → List Int → List Int
  | 0, cl => cl
  | f + 1, cl => if (lwPass s l cl).2 = true then lwClose s l f (lwPass s l cl).1 else (lwPass s l cl).1
/-- The edges of enabled events. -/
def Nx (s : Aut) (l : List Ctl) (n : Nat) : Prop := ∀ x, x < n → ∀ e ∈ (lget l x).en, nxt s.ed x e = to0 s x e ∧ 0 ≤ to0 s x e
theorem lwE_stps (hn : Nx s l n) {x y : Nat} (hx : x < n) (hy : y < n) (z : List Int × Bool) (e : Int) (he : e ∈ (lget l x).en) (h0 : 0 ≤ cget z.1 x) (h1 : cget z.1 x = cget z.1 y) : Stps s l n z (lwE s l x y z e) := by
  unfold lwE
  split
  · exact .refl
  · rename_i h2
    have h2' : e ∈ (lget l y).en := Decidable.not_not.1 h2
    rw [(hn x hx e he).1, (hn y hy e h2').1]
    split
    · rename_i hne
      have hF : Frc s l n z.1 (to0 s x e).toNat (to0 s y e).toNat := ⟨x, y, e, hx, hy, h0, h1, he, h2', rfl, rfl⟩
      rcases joinC_merge z.1 (to0 s x e).toNat (to0 s y e).toNat with h | h
      · rw [h]; exact .step _ _ .refl hne hF
      · rw [h]; exact .step _ _ .refl (Ne.symm hne) hF.symm
    · exact .refl
theorem lwE_fold (hn : Nx s l n) {x y : Nat} (hx : x < n) (hy : y < n) : ∀ (vs : List Int) (z : List Int × Bool), (∀ e ∈ vs, e ∈ (lget l x).en) → z.1.length = n → Occ s l n z.1 → 0 ≤ cget z.1 x → cget z.1 x = cget z.1 y → Stps s l n z (vs.foldl (lwE s l x y) z)
  | [], _, _, _, _, _, _ => .refl
  | v :: vs, z, hv, hl, ho, h0, h1 => by
    have hs := lwE_stps hn hx hy z v (hv v List.mem_cons_self) h0 h1
    have k := hs.kp hl ho
    have := k.sg x hx
    exact hs.trans (lwE_fold hn hx hy vs _ (fun e he => hv e (List.mem_cons_of_mem _ he)) k.len (ho.of k.sg) (by omega) (k.up x y hx hy h1))
theorem lwE_flag (hn : Nx s l n) {x y : Nat} (hx : x < n) (hy : y < n) : ∀ (vs : List Int) (z : List Int × Bool), (∀ e ∈ vs, e ∈ (lget l x).en) → (vs.foldl (lwE s l x y) z).2 = false → ∀ v ∈ vs, v ∈ (lget l y).en → cget z.1 (to0 s x v).toNat = cget z.1 (to0 s y v).toNat
  | [], _, _, _, v, hv, _ => by cases hv
  | v :: vs, z, hvs, h, u, hu, hy2 => by
    rw [List.foldl_cons] at h
    have key : ∀ (ws : List Int) (q : List Int × Bool), q.2 = true → (ws.foldl (lwE s l x y) q).2 = true := by
      intro ws
      induction ws with
      | nil => intro q hq; exact hq
      | cons w ws ih =>
        intro q hq
        rw [List.foldl_cons]
        refine ih _ ?_
        unfold lwE; split
        · exact hq
        · split
          · rfl
          · exact hq
    have hc : v ∈ (lget l y).en → cget z.1 (to0 s x v).toNat = cget z.1 (to0 s y v).toNat := fun hvy => by
      by_cases e : cget z.1 (to0 s x v).toNat = cget z.1 (to0 s y v).toNat
      · exact e
      · have h1 : (lwE s l x y z v).2 = true := by
          unfold lwE
          rw [if_neg (fun h => h hvy), (hn x hx v (hvs v List.mem_cons_self)).1, (hn y hy v hvy).1, if_pos e]
        rw [key _ _ h1] at h; cases h
    have h2 : lwE s l x y z v = z := by
      unfold lwE
      by_cases hvy : v ∈ (lget l y).en
      · rw [if_neg (fun h => h hvy), (hn x hx v (hvs v List.mem_cons_self)).1, (hn y hy v hvy).1, if_neg (fun h => h (hc hvy))]
      · rw [if_pos hvy]
    rw [h2] at h
    rcases List.mem_cons.1 hu with rfl | hu
    · exact hc hy2
    · exact lwE_flag hn hx hy vs z (fun e he => hvs e (List.mem_cons_of_mem _ he)) h u hu hy2
theorem lwY_stps (hn : Nx s l n) {x : Nat} (hx : x < n) (z : List Int × Bool) (y : Nat) (hy : y < n) (hl : z.1.length = n) (ho : Occ s l n z.1) : Stps s l n z (lwY s l x z y) := by
  unfold lwY
  split
  · exact .refl
  · rename_i h
    exact lwE_fold hn hx hy _ z (fun _ h => h) hl ho (by omega) (by omega)
theorem lwY_flag (hn : Nx s l n) {x : Nat} (hx : x < n) (z : List Int × Bool) (y : Nat) (hy : y < n) (h : (lwY s l x z y).2 = false) : Alk s l z.1 x y := by
  intro h0 h1 e he1 he2
  unfold lwY at h
  rw [if_neg (by omega)] at h
  exact lwE_flag hn hx hy _ z (fun _ h => h) h e he1 he2
theorem lwX_stps (hn : Nx s l n) (z : List Int × Bool) (x : Nat) (hx : x < n) (hl : z.1.length = n) (ho : Occ s l n z.1) : Stps s l n z (lwX s l z x) := by
  unfold lwX
  exact fold_stps (P := fun y => y < n) (fun z y hy hl ho => lwY_stps hn hx z y hy hl ho) _ z (fun y hy => by rw [List.mem_range'_1] at hy; omega) hl ho
theorem lwX_flag (hn : Nx s l n) (z : List Int × Bool) (x : Nat) (hx : x < n) (hl : z.1.length = n) (ho : Occ s l n z.1) (h : (lwX s l z x).2 = false) : ∀ y, y < x → Alk s l z.1 x y := by
  unfold lwX at h
  intro y hy
  exact (fold_flag (P := fun y => y < n) (T := fun c y => Alk s l c x y) (fun z y hy hl ho => lwY_stps hn hx z y hy hl ho) (fun z y hy _ _ h => lwY_flag hn hx z y hy h) _ z (fun y hy => by rw [List.mem_range'_1] at hy; omega) hl ho h).2 y (by rw [List.mem_range'_1]; omega)
theorem lwPass_stps (hn : Nx s l n) (c : List Int) (hl : c.length = n) (ho : Occ s l n c) : Stps s l n (c, false) (lwPass s l c) := by
  unfold lwPass
  rw [hl]
  exact fold_stps (P := fun y => y < n) (fun z y hy hl ho => lwX_stps hn z y hy hl ho) _ _ (fun y hy => by rw [List.mem_range'_1] at hy; omega) hl ho
theorem lwPass_flag (hn : Nx s l n) (c : List Int) (hl : c.length = n) (ho : Occ s l n c) (h : (lwPass s l c).2 = false) : (lwPass s l c).1 = c ∧ Clsd s l n c := by
  have h0 := h
  unfold lwPass at h
  rw [hl] at h
  have := fold_flag (P := fun y => y < n) (T := fun c x => ∀ y, y < x → Alk s l c x y) (fun z y hy hl ho => lwX_stps hn z y hy hl ho) (fun z x hx hl ho h => lwX_flag hn z x hx hl ho h) _ (c, false) (fun y hy => by rw [List.mem_range'_1] at hy; omega) hl ho h
  refine ⟨?_, clsd_of_alk fun x y hxy hy => (this.2 y (by rw [List.mem_range'_1]; omega) x hxy).symm⟩
  unfold lwPass
  rw [hl, this.1]
theorem lwClose_spec (hn : Nx s l n) : ∀ (f : Nat) (c : List Int), c.length = n → Occ s l n c → uneq c < f → Clo2 s l n c (lwClose s l f c)
  | 0, _, _, _, h => by omega
  | f + 1, c, hl, ho, hf => by
    have hs := lwPass_stps hn c hl ho
    have k := hs.kp hl ho
    rw [lwClose]
    cases hp : (lwPass s l c).2 with
    | false =>
      obtain ⟨h1, h2⟩ := lwPass_flag hn c hl ho hp
      rw [if_neg (by simp), h1]
      exact ⟨hl, fun _ _ => Iff.rfl, Rf.refl _ _, fun _ _ _ h => h, h2⟩
    | true =>
      rw [if_pos rfl]
      have hu : uneq (lwPass s l c).1 < uneq c := by
        rcases k.un with h | h
        · rw [h] at hp; cases hp
        · exact h
      exact Clo2.of_kp k (lwClose_spec hn f _ k.len (ho.of k.sg) (by omega))
end
end Go.Proofs.YtfhgnlkdcdlblaaDoor
/- SupervisorReduces, plain law, part 3: program and law part the states alike. -/
namespace Go.Proofs.YtfhgnlkdcdlblaaDoor
open Go.Lg

/-- The same classes. -/
structure Sm (n : Nat) (c d : List Int) : Prop where
  r : Rf n c d
  q : Rf n d c
  sg : ∀ x, x < n → (cget d x < 0 ↔ cget c x < 0)
theorem Sm.refl (n : Nat) (c : List Int) : Sm n c c := ⟨Rf.refl _ _, Rf.refl _ _, fun _ _ => Iff.rfl⟩
/-- A class is its least state. -/
def Lst (n : Nat) (d : List Int) : Prop := ∀ x, x < n → 0 ≤ cget d x → cget d x ≤ x ∧ cget d (cget d x).toNat = cget d x
theorem cget_join {d : List Int} {u v x : Nat} (h : x < d.length) : cget (joinC d u v) x = if cget d x = max (cget d u) (cget d v) then min (cget d u) (cget d v) else cget d x := by
  unfold joinC; rw [cget_map _ h]; rfl
theorem Lst.join {n : Nat} {d : List Int} (hl : d.length = n) (h : Lst n d) {u v : Nat} (hu : u < n) (hv : v < n) (hu0 : 0 ≤ cget d u) (hv0 : 0 ≤ cget d v) : Lst n (joinC d u v) := by
  by_cases he : cget d u = cget d v
  · have e : joinC d u v = d := by
      unfold joinC
      rw [he, Int.max_self, Int.min_self]
      conv => rhs; rw [← List.map_id d]
      refine List.map_congr_left fun c _ => ?_
      unfold mgF; split
      · rename_i h; exact h.symm
      · rfl
    rw [e]; exact h
  have hu1 := h u hu hu0
  have hv1 := h v hv hv0
  -- the lesser label and its state
  have hmin : cget d (min (cget d u) (cget d v)).toNat = min (cget d u) (cget d v) ∧ (min (cget d u) (cget d v)).toNat < n := by
    rcases Int.le_total (cget d u) (cget d v) with h1 | h1
    · rw [Int.min_eq_left h1]; exact ⟨hu1.2, by omega⟩
    · rw [Int.min_eq_right h1]; exact ⟨hv1.2, by omega⟩
  have hne : min (cget d u) (cget d v) ≠ max (cget d u) (cget d v) := by omega
  intro x hx hx0
  rw [cget_join (by omega)] at hx0 ⊢
  by_cases h1 : cget d x = max (cget d u) (cget d v)
  · rw [if_pos h1] at hx0 ⊢
    have hx1 := h x hx (by omega)
    refine ⟨by omega, ?_⟩
    rw [cget_join (by omega), hmin.1, if_neg hne]
  · rw [if_neg h1] at hx0 ⊢
    have hx1 := h x hx hx0
    refine ⟨hx1.1, ?_⟩
    rw [cget_join (by omega), hx1.2, if_neg h1]
section
variable {s : Aut} {l : List Ctl} {n : Nat}
theorem lwE_lst (hn : Nx s l n) {x y : Nat} (hx : x < n) (hy : y < n) (z : List Int × Bool) (e : Int) (he : e ∈ (lget l x).en) (h0 : 0 ≤ cget z.1 x) (h1 : cget z.1 x = cget z.1 y) (hl : z.1.length = n) (ho : Occ s l n z.1) (hL : Lst n z.1) : Lst n (lwE s l x y z e).1 := by
  unfold lwE
  split
  · exact hL
  · rename_i h2
    have h2' : e ∈ (lget l y).en := Decidable.not_not.1 h2
    rw [(hn x hx e he).1, (hn y hy e h2').1]
    obtain ⟨a1, a2⟩ := ho x hx h0 e he
    obtain ⟨b1, b2⟩ := ho y hy (by omega) e h2'
    split
    · exact hL.join hl a1 b1 a2 b2
    · exact hL
theorem lwE_fold_lst (hn : Nx s l n) {x y : Nat} (hx : x < n) (hy : y < n) : ∀ (vs : List Int) (z : List Int × Bool), (∀ e ∈ vs, e ∈ (lget l x).en) → z.1.length = n → Occ s l n z.1 → 0 ≤ cget z.1 x → cget z.1 x = cget z.1 y → Lst n z.1 → Lst n (vs.foldl (lwE s l x y) z).1
  | [], _, _, _, _, _, _, h => h
  | v :: vs, z, hv, hl, ho, h0, h1, hL => by
    have hs := lwE_stps hn hx hy z v (hv v List.mem_cons_self) h0 h1
    have k := hs.kp hl ho
    have := k.sg x hx
    exact lwE_fold_lst hn hx hy vs _ (fun e he => hv e (List.mem_cons_of_mem _ he)) k.len (ho.of k.sg) (by omega) (k.up x y hx hy h1) (lwE_lst hn hx hy z v (hv v List.mem_cons_self) h0 h1 hl ho hL)
theorem fold_lst {α : Type} {f : List Int × Bool → α → List Int × Bool} {P : α → Prop} (hf : ∀ z a, P a → z.1.length = n → Occ s l n z.1 → Stps s l n z (f z a)) (hL : ∀ z a, P a → z.1.length = n → Occ s l n z.1 → Lst n z.1 → Lst n (f z a).1) :
    ∀ (rs : List α) (z : List Int × Bool), (∀ a ∈ rs, P a) → z.1.length = n → Occ s l n z.1 → Lst n z.1 → Lst n (rs.foldl f z).1
  | [], _, _, _, _, h => h
  | a :: rs, z, hP, hl, ho, h => by
    have k := (hf z a (hP a List.mem_cons_self) hl ho).kp hl ho
    exact fold_lst hf hL rs _ (fun b hb => hP b (List.mem_cons_of_mem _ hb)) k.len (ho.of k.sg) (hL z a (hP a List.mem_cons_self) hl ho h)
theorem lwY_lst (hn : Nx s l n) {x : Nat} (hx : x < n) (z : List Int × Bool) (y : Nat) (hy : y < n) (hl : z.1.length = n) (ho : Occ s l n z.1) (hL : Lst n z.1) : Lst n (lwY s l x z y).1 := by
  unfold lwY
  split
  · exact hL
  · rename_i h
    exact lwE_fold_lst hn hx hy _ z (fun _ h => h) hl ho (by omega) (by omega) hL
theorem lwX_lst (hn : Nx s l n) (z : List Int × Bool) (x : Nat) (hx : x < n) (hl : z.1.length = n) (ho : Occ s l n z.1) (hL : Lst n z.1) : Lst n (lwX s l z x).1 := by
  unfold lwX
  exact fold_lst (P := fun y => y < n) (fun z y hy hl ho => lwY_stps hn hx z y hy hl ho) (fun z y hy hl ho h => lwY_lst hn hx z y hy hl ho h) _ z (fun y hy => by rw [List.mem_range'_1] at hy; omega) hl ho hL
theorem lwPass_lst (hn : Nx s l n) (c : List Int) (hl : c.length = n) (ho : Occ s l n c) (hL : Lst n c) : Lst n (lwPass s l c).1 := by
  unfold lwPass
  rw [hl]
  exact fold_lst (P := fun y => y < n) (fun z y hy hl ho => lwX_stps hn z y hy hl ho) (fun z y hy hl ho h => lwX_lst hn z y hy hl ho h) _ (c, false) (fun y hy => by rw [List.mem_range'_1] at hy; omega) hl ho hL
theorem lwClose_lst (hn : Nx s l n) : ∀ (f : Nat) (c : List Int), c.length = n → Occ s l n c → Lst n c → Lst n (lwClose s l f c)
  | 0, _, _, _, h => h
  | f + 1, c, hl, ho, hL => by
    have k := (lwPass_stps hn c hl ho).kp hl ho
    have h1 := lwPass_lst hn c hl ho hL
    rw [lwClose]
    split
    · exact lwClose_lst hn f _ k.len (ho.of k.sg) h1
    · exact h1
/-! ### Trying two states -/
def lwCons (l : List Ctl) (c : List Int) : Bool := (List.range' 0 c.length).all fun x => (List.range' 0 x).all fun y => !(decide (0 ≤ cget c x ∧ cget c x = cget c y) && !lawC (lget l x) (lget l y))
def lwMerge (s : Aut) (l : List Ctl) (c : List Int) (i j : Nat) : List Int × Bool :=
  if lwCons l (lwClose s l (c.length * c.length + 1) (joinC c i j)) = true then (lwClose s l (c.length * c.length + 1) (joinC c i j), true) else (c, false)
def lwTry (s : Aut) (l : List Ctl) (c : List Int) (i j : Nat) : List Int := if 0 ≤ cget c i ∧ 0 ≤ cget c j ∧ cget c i ≠ cget c j then (lwMerge s l c i j).1 else c
/-- All lists of Controls are sets. -/
def IncA (l : List Ctl) (n : Nat) : Prop := ∀ x, x < n → Inc (lget l x).en ∧ Inc (lget l x).dis
theorem all_congr' {α : Type} {f g : α → Bool} : ∀ {rs : List α}, (∀ x ∈ rs, f x = g x) → rs.all f = rs.all g
  | [], _ => rfl
  | x :: rs, h => by rw [List.all_cons, List.all_cons, h x List.mem_cons_self, all_congr' (fun y hy => h y (List.mem_cons_of_mem _ hy))]
theorem cons_same (hi : IncA l n) {c d : List Int} (hc : c.length = n) (hd : d.length = n) (h : Sm n c d) : consAll l c = lwCons l d := by
  unfold consAll lwCons
  rw [hc, hd]
  refine all_congr' fun x hx => all_congr' fun y hy => ?_
  rw [List.mem_range'_1] at hx hy
  have hx' : x < n := by omega
  have hy' : y < n := by omega
  rw [consC_law (hi x hx').1 (hi x hx').2 (hi y hy').1 (hi y hy').2]
  have e : decide (0 ≤ cget c x ∧ cget c x = cget c y) = decide (0 ≤ cget d x ∧ cget d x = cget d y) := by
    rw [decide_eq_decide]
    have := h.sg x hx'
    have h1 := h.r x y hx' hy'
    have h2 := h.q x y hx' hy'
    constructor
    · rintro ⟨a, b⟩; exact ⟨by omega, h1 b⟩
    · rintro ⟨a, b⟩; exact ⟨by omega, h2 b⟩
  rw [e]
/-- What is kept while states are tried. -/
structure TrI (s : Aut) (l : List Ctl) (n : Nat) (c d : List Int) : Prop where
  lc : c.length = n
  ld : d.length = n
  sm : Sm n c d
  oc : Occ s l n c
  ls : Lst n d
theorem TrI.od {c d : List Int} (h : TrI s l n c d) : Occ s l n d := h.oc.of h.sm.sg
theorem try_same (hi : IncA l n) (hn : Nx s l n) {c d : List Int} (h : TrI s l n c d) {x y : Nat} (hx : x < n) (hy : y < n) : TrI s l n (tryC s l c x y) (lwTry s l d x y) := by
  have sx := h.sm.sg x hx
  have sy := h.sm.sg y hy
  have r := h.sm.r x y hx hy
  have q := h.sm.q x y hx hy
  unfold tryC lwTry
  by_cases h1 : cget c x < 0 ∨ cget c y < 0 ∨ cget c x = cget c y
  · have hcond : ¬ (0 ≤ cget d x ∧ 0 ≤ cget d y ∧ cget d x ≠ cget d y) := fun e => h1.elim (fun a => by omega) (fun a => a.elim (fun a => by omega) (fun a => e.2.2 (r a)))
    rw [if_pos h1, if_neg hcond]
    exact h
  · have hcond : 0 ≤ cget d x ∧ 0 ≤ cget d y ∧ cget d x ≠ cget d y := ⟨by omega, by omega, fun e => h1 (.inr (.inr (q e)))⟩
    rw [if_neg h1, if_pos hcond]
    have hod := h.od
    have hiL : IncL l n := fun x hx => (hi x hx).1
    have hc0 : 0 ≤ cget c x := by omega
    have hc1 : 0 ≤ cget c y := by omega
    have hd0 : 0 ≤ cget d x := by omega
    have hd1 : 0 ≤ cget d y := by omega
    -- after the merge
    have lc' : (mergeC c x y).length = n := by rw [mergeC_len]; exact h.lc
    have oc' : Occ s l n (mergeC c x y) := h.oc.of fun q hq => merge_sign h.lc hc0 hc1 hq
    have ld' : (joinC d x y).length = n := by rw [joinC_len]; exact h.ld
    have sgd : ∀ q, q < n → (cget (joinC d x y) q < 0 ↔ cget d q < 0) := fun q hq => by
      rcases joinC_merge d x y with e | e
      · rw [e]; exact merge_sign h.ld hd0 hd1 hq
      · rw [e]; exact merge_sign h.ld hd1 hd0 hq
    have od' : Occ s l n (joinC d x y) := hod.of sgd
    have updj : Rf n d (joinC d x y) := by
      rcases joinC_merge d x y with e | e
      · rw [e]; exact Rf.of_merge h.ld _ _
      · rw [e]; exact Rf.of_merge h.ld _ _
    have jxy : cget (joinC d x y) x = cget (joinC d x y) y := by
      rcases joinC_merge d x y with e | e
      · rw [e]; exact merge_eq h.ld hx hy
      · rw [e]; exact (merge_eq h.ld hy hx).symm
    have dnj : ∀ e, Rf n d e → cget e x = cget e y → Rf n (joinC d x y) e := fun e hr hxy => by
      rcases joinC_merge d x y with e' | e'
      · rw [e']; exact Rf.merge h.ld hr hx hy hxy
      · rw [e']; exact Rf.merge h.ld hr hy hx hxy.symm
    have K1 := closeC_spec hiL (c.length * c.length + 1) (mergeC c x y) lc' oc' (by have := uneq_le (mergeC c x y); rw [mergeC_len] at this; omega)
    have K2 := lwClose_spec hn (d.length * d.length + 1) (joinC d x y) ld' od' (by have := uneq_le (joinC d x y); rw [joinC_len] at this; omega)
    have L2 := lwClose_lst hn (d.length * d.length + 1) (joinC d x y) ld' od' (h.ls.join h.ld hx hy hd0 hd1)
    have sgc : ∀ q, q < n → (cget (mergeC c x y) q < 0 ↔ cget c q < 0) := fun q hq => merge_sign h.lc hc0 hc1 hq
    have S : Sm n (closeC s l (c.length * c.length + 1) (mergeC c x y)) (lwClose s l (d.length * d.length + 1) (joinC d x y)) := by
      refine ⟨K1.dn _ K2.cl (fun q hq => ?_) ?_, K2.dn _ K1.cl (fun q hq => ?_) ?_, fun q hq => ?_⟩
      · rw [K2.sg q hq, sgd q hq, h.sm.sg q hq, sgc q hq]
      · exact Rf.merge h.lc ((h.sm.r.trans updj).trans K2.up) hx hy (K2.up x y hx hy jxy)
      · rw [K1.sg q hq, sgc q hq, sgd q hq, h.sm.sg q hq]
      · exact dnj _ ((h.sm.q.trans (Rf.of_merge h.lc _ _)).trans K1.up) (K1.up x y hx hy (merge_eq h.lc hx hy))
      · rw [K2.sg q hq, sgd q hq, h.sm.sg q hq, K1.sg q hq, sgc q hq]
    have hcons := cons_same hi K1.len K2.len S
    unfold lwMerge
    by_cases hk : consAll l (closeC s l (c.length * c.length + 1) (mergeC c x y)) = true
    · rw [if_pos hk, if_pos (by rw [← hcons]; exact hk)]
      exact ⟨K1.len, K2.len, S, oc'.of K1.sg, L2⟩
    · rw [if_neg hk, if_neg (by rw [← hcons]; exact hk)]
      exact h
def lwTX (s : Aut) (l : List Ctl) (n : Nat) (c : List Int) (x : Nat) : List Int := (List.range' (x + 1) (n - (x + 1))).foldl (fun c y => lwTry s l c x y) c
def lwA (s : Aut) (l : List Ctl) (c : List Int) : List Int := (List.range' 0 c.length).foldl (lwTX s l c.length) c
theorem fold_two {α : Type} {f g : List Int → α → List Int} {P : α → Prop} {I : List Int → List Int → Prop} (h : ∀ c d a, P a → I c d → I (f c a) (g d a)) : ∀ (rs : List α) (c d : List Int), (∀ a ∈ rs, P a) → I c d → I (rs.foldl f c) (rs.foldl g d)
  | [], _, _, _, hI => hI
  | a :: rs, c, d, hP, hI => fold_two h rs _ _ (fun b hb => hP b (List.mem_cons_of_mem _ hb)) (h c d a (hP a List.mem_cons_self) hI)
theorem cls_same (hi : IncA l n) (hn : Nx s l n) {c d : List Int} (h : TrI s l n c d) : TrI s l n (clsA s l c) (lwA s l d) := by
  unfold clsA lwA
  rw [h.lc, h.ld]
  refine fold_two (P := fun x => x < n) (I := TrI s l n) (fun c d x hx hI => ?_) _ c d (fun x hx => by rw [List.mem_range'_1] at hx; omega) h
  unfold tryX lwTX
  exact fold_two (f := fun c y => tryC s l c x y) (g := fun d y => lwTry s l d x y) (P := fun y => y < n) (I := TrI s l n) (fun c d y hy hI => try_same hi hn hI hx hy) (List.range' (x + 1) (n - (x + 1))) c d (fun y hy => by rw [List.mem_range'_1] at hy; omega) hI
end
/-! ### The numbers -/
def lwN (d : List Int) (z : List Int × Nat) (x : Nat) : List Int × Nat :=
  if cget d x < 0 then (z.1 ++ [-1], z.2) else if cget d x = x then (z.1 ++ [(z.2 : Int)], z.2 + 1) else (z.1 ++ [cget z.1 (cget d x).toNat], z.2)
def lwNums (d : List Int) : List Int × Nat := (List.range' 0 d.length).foldl (lwN d) ([], 0)
theorem idx_append {K : List Int} {a b : Int} (h : a ∈ K) : (K ++ [b]).idxOf a = K.idxOf a := by rw [List.idxOf_append, if_pos h]
theorem cget_snoc_lt {l : List Int} {a : Int} {i : Nat} (h : i < l.length) : cget (l ++ [a]) i = cget l i := cget_pre h
theorem cget_snoc_eq {l : List Int} {a : Int} : cget (l ++ [a]) l.length = a := by simp [cget, List.getD]
/-- While the numbers are given. -/
structure NmI (c d : List Int) (k : Nat) (z1 : List Int × List Int) (z2 : List Int × Nat) : Prop where
  eq : z1.2 = z2.1
  len : z1.2.length = k
  cnt : z1.1.length = z2.2 + 1
  neg : (-1 : Int) ∈ z1.1
  n0 : z1.1.idxOf (-1) = 0
  mem : ∀ b ∈ z1.1, b = -1 ∨ ∃ y, y < k ∧ cget c y = b ∧ 0 ≤ b
  inn : ∀ y, y < k → cget c y ∈ z1.1 ∧ cget z1.2 y = (z1.1.idxOf (cget c y) : Int) - 1
theorem num_same {n : Nat} {c d : List Int} (hc : c.length = n) (hd : d.length = n) (h : Sm n c d) (hL : Lst n d) (hm : ∀ x, x < n → cget c x < 0 → cget c x = -1) : ∀ k, k ≤ n → NmI c d k ((c.take k).foldl numS ([-1], [])) ((List.range' 0 k).foldl (lwN d) ([], 0))
  | 0, _ => ⟨rfl, rfl, rfl, by simp, by simp, fun b hb => .inl (by simpa using hb), fun y hy => by omega⟩
  | k + 1, hk => by
    have ih := num_same hc hd h hL hm k (by omega)
    have hkc : k < c.length := by omega
    rw [List.take_succ_eq_append_getElem hkc, List.foldl_append, List.range'_1_concat, List.foldl_append, Nat.zero_add]
    simp only [List.foldl_cons, List.foldl_nil]
    rw [cget_eq hkc]
    generalize (c.take k).foldl numS ([-1], []) = z1 at ih
    generalize (List.range' 0 k).foldl (lwN d) ([], 0) = z2 at ih
    have hk' : k < n := by omega
    have sk := h.sg k hk'
    have old : ∀ {K' : List Int} {a : Int}, (∀ b, b ∈ z1.1 → K'.idxOf b = z1.1.idxOf b ∧ b ∈ K') → ∀ y, y < k → cget c y ∈ K' ∧ cget (z1.2 ++ [a]) y = (K'.idxOf (cget c y) : Int) - 1 := fun hK y hy => by
      obtain ⟨i1, i2⟩ := ih.inn y hy
      obtain ⟨j1, j2⟩ := hK _ i1
      exact ⟨j2, by rw [cget_snoc_lt (by rw [ih.len]; exact hy), i2, j1]⟩
    have same : ∀ b, b ∈ z1.1 → z1.1.idxOf b = z1.1.idxOf b ∧ b ∈ z1.1 := fun b hb => ⟨rfl, hb⟩
    unfold numS lwN
    by_cases hneg : cget c k < 0
    · have e1 := hm k hk' hneg
      rw [if_pos (by rw [e1]; exact ih.neg), if_pos (by omega), e1, ih.n0]
      refine ⟨by simp [ih.eq], by simp [ih.len], ih.cnt, ih.neg, ih.n0, fun b hb => ?_, fun y hy => ?_⟩
      · rcases ih.mem b hb with a | ⟨y, y1, y2, y3⟩
        · exact .inl a
        · exact .inr ⟨y, by omega, y2, y3⟩
      · by_cases e : y = k
        · subst e
          refine ⟨by rw [e1]; exact ih.neg, ?_⟩
          rw [e1, ih.n0]
          have := cget_snoc_eq (l := z1.2) (a := ((0 : Nat) : Int) - 1)
          rw [ih.len] at this
          exact this
        · exact old same y (by omega)
    · rw [if_neg (show ¬ cget d k < 0 by omega)]
      have hd0 : 0 ≤ cget d k := by omega
      obtain ⟨m1, m2⟩ := hL k hk' hd0
      by_cases hin : cget c k ∈ z1.1
      · rw [if_pos hin]
        obtain ⟨y, y1, y2, y3⟩ := (ih.mem _ hin).resolve_left (by omega)
        have hy' : y < n := by omega
        have e2 : cget d y = cget d k := h.r y k hy' hk' y2
        have hy0 := hL y hy' (by omega)
        have hlt : (cget d k).toNat < k := by omega
        rw [if_neg (show ¬ cget d k = (k : Int) by omega)]
        have e3 : cget c (cget d k).toNat = cget c k := h.q _ k (by omega) hk' m2
        obtain ⟨j1, j2⟩ := ih.inn _ hlt
        rw [e3] at j2
        refine ⟨by rw [← ih.eq, j2], by simp [ih.len], ih.cnt, ih.neg, ih.n0, fun b hb => ?_, fun q hq => ?_⟩
        · rcases ih.mem b hb with a | ⟨y, y1, y2, y3⟩
          · exact .inl a
          · exact .inr ⟨y, by omega, y2, y3⟩
        · by_cases e : q = k
          · subst e
            refine ⟨hin, ?_⟩
            have := cget_snoc_eq (l := z1.2) (a := (z1.1.idxOf (cget c q) : Int) - 1)
            rw [ih.len] at this
            exact this
          · exact old same q (by omega)
      · rw [if_neg hin]
        have hself : cget d k = (k : Int) := by
          rcases Int.lt_or_le (cget d k) k with hlt | hge
          · exfalso
            have e3 : cget c (cget d k).toNat = cget c k := h.q _ k (by omega) hk' m2
            have := (ih.inn (cget d k).toNat (by omega)).1
            rw [e3] at this
            exact hin this
          · omega
        rw [if_pos hself]
        have hcnt := ih.cnt
        refine ⟨by simp only []; rw [← ih.eq]; congr 2; omega, by simp [ih.len], by simp; omega, List.mem_append_left _ ih.neg, by rw [idx_append ih.neg]; exact ih.n0, fun b hb => ?_, fun q hq => ?_⟩
        · rcases List.mem_append.1 hb with hb | hb
          · rcases ih.mem b hb with a | ⟨y, y1, y2, y3⟩
            · exact .inl a
            · exact .inr ⟨y, by omega, y2, y3⟩
          · simp only [List.mem_singleton] at hb; subst hb; exact .inr ⟨k, by omega, rfl, by omega⟩
        · by_cases e : q = k
          · subst e
            refine ⟨by simp, ?_⟩
            rw [List.idxOf_append, if_neg hin]
            have := cget_snoc_eq (l := z1.2) (a := (z1.1.length : Int) - 1)
            rw [ih.len] at this
            simp only [List.idxOf_cons_self, Nat.zero_add]
            exact this
          · exact old (fun b hb => ⟨idx_append hb, List.mem_append_left _ hb⟩) q (by omega)
end Go.Proofs.YtfhgnlkdcdlblaaDoor
/- SupervisorReduces, plain law, part 4: the Controls, the numbers, the reduced supervisor. -/
namespace Go.Proofs.YtfhgnlkdcdlblaaDoor
open Go.Lg

/-! ### The first classes -/
def occB (pairs : List (List Int)) (x : Nat) : Bool := pairs.any fun q => decide (py q = (x : Int))
def lw0 (n : Nat) (pairs : List (List Int)) : List Int := (List.range' 0 n).map fun x : Nat => if occB pairs x = true then (x : Int) else -1
theorem cget_range {n : Nat} (f : Nat → Int) {x : Nat} (h : x < n) : cget ((List.range' 0 n).map f) x = f x := by simp [cget, List.getD, h]
theorem cget_lw0 {n : Nat} {pairs : List (List Int)} {x : Nat} (h : x < n) : cget (lw0 n pairs) x = if occB pairs x = true then (x : Int) else -1 := cget_range _ h
theorem occs_get {n : Nat} {x : Nat} (hx : x < n) : ∀ (pairs : List (List Int)) (o : List Bool), o.length = n → (∀ q ∈ pairs, 0 ≤ py q ∧ py q < n) → (pairs.foldl (fun o q => o.set (py q).toNat true) o).getD x false = (o.getD x false || occB pairs x)
  | [], o, _, _ => by simp [occB]
  | q :: pairs, o, hl, hv => by
    have hq := hv q List.mem_cons_self
    rw [List.foldl_cons, occs_get hx pairs _ (by simpa using hl) (fun r hr => hv r (List.mem_cons_of_mem _ hr))]
    unfold occB
    rw [List.any_cons]
    by_cases e : py q = (x : Int)
    · have : (py q).toNat = x := by omega
      rw [this, decide_eq_true e]
      have h1 : (o.set x true).getD x false = true := by simp [List.getD, hl, hx]
      rw [h1]; simp
    · have : (py q).toNat ≠ x := by omega
      rw [decide_eq_false e]
      have h1 : (o.set (py q).toNat true).getD x false = o.getD x false := by simp [List.getD, List.getElem?_set_ne this]
      rw [h1]; simp
theorem cls0_eq {p s : Aut} {pairs : List (List Int)} (hv : ∀ q ∈ pairs, Vt [p, s] q) : cls0 (occs s.st.toNat pairs) = lw0 s.st.toNat pairs := by
  unfold cls0 lw0
  rw [occs_len]
  refine List.map_congr_left fun x hx => ?_
  rw [List.mem_range'_1] at hx
  have hx' : x < s.st.toNat := by omega
  unfold occs
  rw [occs_get hx' pairs (List.replicate s.st.toNat false) (by simp) (fun q hq => by
    obtain ⟨a, b, rfl, _, h2⟩ := Vt2 (hv q hq)
    show 0 ≤ (b : Int) ∧ (b : Int) < _
    omega)]
  have : (List.replicate s.st.toNat false).getD x false = false := by simp [List.getD, hx']
  rw [this, Bool.false_or]
theorem ctls_eq {p s : Aut} (hp : Okay p) (hs : Okay s) {pairs : List (List Int)} (hv : ∀ q ∈ pairs, Vt [p, s] q) : ctls p s pairs = (List.range' 0 s.st.toNat).map fun x : Nat => ctlD p s pairs x := by
  refine List.ext_getElem (by rw [ctls_len]; simp) fun i h1 h2 => ?_
  have h3 : i < s.st.toNat := by rw [ctls_len] at h1; exact h1
  have := ctls_def hp hs hv i h3
  unfold lget at this
  rw [List.getElem_map, List.getElem_range', Nat.zero_add, Nat.one_mul, ← this]
  simp [List.getD, h1]
section
variable {p s : Aut} {pairs : List (List Int)}
theorem ctls_incA (hp : Okay p) (hs : Okay s) (hv : ∀ q ∈ pairs, Vt [p, s] q) : IncA (ctls p s pairs) s.st.toNat := fun x hx => by
  rw [ctls_def hp hs hv x hx]
  exact ⟨List.Pairwise.sublist List.filter_sublist hs.ali, List.Pairwise.sublist List.filter_sublist hs.ali⟩
theorem ctls_en (hp : Okay p) (hs : Okay s) (hv : ∀ q ∈ pairs, Vt [p, s] q) {x : Nat} (hx : x < s.st.toNat) {e : Int} (he : e ∈ (lget (ctls p s pairs) x).en) : e ∈ s.al ∧ canX p pairs x e = true ∧ 0 ≤ nxt s.ed x e := by
  rw [ctls_def hp hs hv x hx] at he
  simp only [ctlD, List.mem_filter, Bool.and_eq_true, decide_eq_true_eq] at he
  exact ⟨he.1, he.2.1, he.2.2⟩
theorem ctls_nx (hp : Okay p) (hs : Okay s) (hv : ∀ q ∈ pairs, Vt [p, s] q) : Nx s (ctls p s pairs) s.st.toNat := fun x hx e he => by
  have h := (ctls_en hp hs hv hx he).2.2
  have h1 := h
  rw [nxt_eget] at h1 ⊢
  unfold to0
  cases hg : eget s.ed x e with
  | none => rw [hg] at h1; simp at h1
  | some u => rw [hg] at h1; exact ⟨rfl, h1⟩
theorem ctls_occ (hp : Okay p) (hs : Okay s) {A : Aut} (h : SyP [p, s] A pairs) : Occ s (ctls p s pairs) s.st.toNat (lw0 s.st.toNat pairs) := fun x hx _ e he => by
  have hv := h.v
  obtain ⟨h1, h2, h3⟩ := ctls_en hp hs hv hx he
  obtain ⟨n1, n2⟩ := ctls_nx hp hs hv x hx e he
  have hlt : nxt s.ed x e < s.st := (hs.ed _ (nxt_mem h3)).2.2.2.2
  have ho : ∀ a ∈ [p, s], Okay a := fun a ha => by
    simp only [List.mem_cons, List.not_mem_nil, or_false] at ha
    rcases ha with rfl | rfl
    · exact hp
    · exact hs
  -- the pair that leads there
  unfold canX at h2
  rw [List.any_eq_true] at h2
  obtain ⟨q, hq, hqx⟩ := h2
  simp only [Bool.and_eq_true, decide_eq_true_eq] at hqx
  obtain ⟨a, b, rfl, ha, hb⟩ := Vt2 (hv q hq)
  have e1 : px [(a : Int), (b : Int)] = (a : Int) := rfl
  have e2 : py [(a : Int), (b : Int)] = (b : Int) := rfl
  rw [e1, e2] at hqx
  obtain ⟨rfl, hpa⟩ : b = x ∧ 0 ≤ nxt p.ed a e := ⟨by omega, hqx.2⟩
  obtain ⟨j, hj, hqj⟩ := List.getElem_of_mem hq
  have hpal : e ∈ p.al := (hp.ed _ (nxt_mem hpa)).2.2.1
  have hev : e ∈ evs [p, s] := (evs_mem ho e).2 ⟨p, by simp, hpal⟩
  have hst : stepT e [p, s] [(a : Int), (b : Int)] = some [nxt p.ed a e, nxt s.ed b e] := by
    have g1 := (nxt_nonneg hp a e).1 hpa
    have g2 := (nxt_nonneg hs b e).1 h3
    obtain ⟨u, hu⟩ := Option.isSome_iff_exists.1 g1
    obtain ⟨t, ht⟩ := Option.isSome_iff_exists.1 g2
    have f1 : nxt p.ed a e = u := by rw [nxt_eget, hu]
    have f2 : nxt s.ed b e = t := by rw [nxt_eget, ht]
    rw [stepT, if_neg (fun h => h hpal), hu, stepT, if_neg (fun h => h h1), ht, f1, f2]
    rfl
  have hg : pairs.getD j [] = [(a : Int), (b : Int)] := by rw [← hqj]; simp [List.getD, hj]
  have hm := h.cl j hj e hev _ (by rw [hg]; exact hst)
  have hto : (to0 s b e).toNat < s.st.toNat := by rw [← n1]; omega
  refine ⟨hto, ?_⟩
  rw [cget_lw0 hto, if_pos]
  · omega
  · unfold occB
    rw [List.any_eq_true]
    refine ⟨_, hm, ?_⟩
    have e3 : py [nxt p.ed a e, nxt s.ed b e] = nxt s.ed b e := rfl
    rw [e3, n1]; simp; omega
theorem lw0_tri (hp : Okay p) (hs : Okay s) {A : Aut} (h : SyP [p, s] A pairs) : TrI s (ctls p s pairs) s.st.toNat (lw0 s.st.toNat pairs) (lw0 s.st.toNat pairs) := by
  refine ⟨by simp [lw0], by simp [lw0], Sm.refl _ _, ctls_occ hp hs h, fun x hx h0 => ?_⟩
  rw [cget_lw0 hx] at h0 ⊢
  split at h0
  · rename_i ho
    rw [if_pos ho]
    refine ⟨Int.le_refl _, ?_⟩
    rw [Int.toNat_natCast, cget_lw0 hx, if_pos ho]
  · omega
end
/-! ### Labels that are no classes are -1 -/
def Ng (c : List Int) : Prop := ∀ x, cget c x < 0 → cget c x = -1
theorem Ng.merge {c : List Int} (h : Ng c) (u v : Nat) : Ng (mergeC c u v) := by
  intro x hx
  rcases Nat.lt_or_ge x c.length with hl | hl
  · rw [cget_merge hl] at hx ⊢
    split at hx
    · rename_i e; rw [if_pos e]; exact h u hx
    · rename_i e; rw [if_neg e]; exact h x hx
  · have : cget (mergeC c u v) x = 0 := by simp [cget, List.getD, mergeC_len, hl]
    omega
theorem Stps.ng {s : Aut} {l : List Ctl} {n : Nat} {z z' : List Int × Bool} (h : Stps s l n z z') (hn : Ng z.1) : Ng z'.1 := by
  induction h with
  | refl => exact hn
  | step u t _ _ _ ih => exact ih.merge u t
section
variable {s : Aut} {l : List Ctl} {n : Nat}
theorem closeC_ng (hi : IncL l n) : ∀ (f : Nat) (c : List Int), c.length = n → Occ s l n c → Ng c → Ng (closeC s l f c)
  | 0, _, _, _, h => h
  | f + 1, c, hl, ho, hN => by
    have hs := pass_stps hi c hl ho
    have k := hs.kp hl ho
    rw [closeC]
    split
    · exact closeC_ng hi f _ k.len (ho.of k.sg) (hs.ng hN)
    · exact hs.ng hN
theorem clsA_ng (hi : IncA l n) (hn : Nx s l n) {c d : List Int} (h : TrI s l n c d) (hN : Ng c) : Ng (clsA s l c) := by
  have key : TrI s l n (clsA s l c) (lwA s l d) ∧ Ng (clsA s l c) := by
    unfold clsA lwA
    rw [h.lc, h.ld]
    refine fold_two (P := fun x => x < n) (I := fun c d => TrI s l n c d ∧ Ng c) (fun c d x hx hI => ?_) _ c d (fun x hx => by rw [List.mem_range'_1] at hx; omega) ⟨h, hN⟩
    unfold tryX lwTX
    refine fold_two (f := fun c y => tryC s l c x y) (g := fun d y => lwTry s l d x y) (P := fun y => y < n) (I := fun c d => TrI s l n c d ∧ Ng c) (fun c d y hy hI => ⟨try_same hi hn hI.1 hx hy, ?_⟩) (List.range' (x + 1) (n - (x + 1))) c d (fun y hy => by rw [List.mem_range'_1] at hy; omega) hI
    unfold tryC
    split
    · exact hI.2
    · rename_i h1
      have hc0 : 0 ≤ cget c x := by omega
      have hc1 : 0 ≤ cget c y := by omega
      have := closeC_ng (s := s) (fun x hx => (hi x hx).1) (c.length * c.length + 1) (mergeC c x y) (by rw [mergeC_len]; exact hI.1.lc) (hI.1.oc.of fun q hq => merge_sign hI.1.lc hc0 hc1 hq) (hI.2.merge x y)
      simp only []
      split
      · exact this
      · exact hI.2
  exact key.2
end
/-! ### The numbers and their greatest -/
theorem numMax {n : Nat} {c d : List Int} (hc : c.length = n) (hd : d.length = n) (h : Sm n c d) (hL : Lst n d) (hm : ∀ x, x < n → cget c x < 0 → cget c x = -1) : ∀ k, k ≤ n → ((List.range' 0 k).foldl (lwN d) ([], 0)).2 = 0 ∨ ∃ y, y < k ∧ cget ((List.range' 0 k).foldl (lwN d) ([], 0)).1 y = (((List.range' 0 k).foldl (lwN d) ([], 0)).2 : Int) - 1
  | 0, _ => .inl rfl
  | k + 1, hk => by
    have ih := numMax hc hd h hL hm k (by omega)
    have I := num_same hc hd h hL hm k (by omega)
    have hlen := I.len
    rw [I.eq] at hlen
    rw [List.range'_1_concat, List.foldl_append, Nat.zero_add]
    simp only [List.foldl_cons, List.foldl_nil]
    generalize (List.range' 0 k).foldl (lwN d) ([], 0) = z at ih hlen
    unfold lwN
    split
    · rcases ih with h1 | ⟨y, h1, h2⟩
      · exact .inl h1
      · exact .inr ⟨y, by omega, by simp only []; rw [cget_snoc_lt (by omega)]; exact h2⟩
    · split
      · right
        refine ⟨k, by omega, ?_⟩
        have := cget_snoc_eq (l := z.1) (a := (z.2 : Int))
        rw [hlen] at this
        simp only []
        rw [this]; omega
      · rcases ih with h1 | ⟨y, h1, h2⟩
        · exact .inl h1
        · exact .inr ⟨y, by omega, by simp only []; rw [cget_snoc_lt (by omega)]; exact h2⟩
theorem maxI_ge {l : List Int} {x : Nat} (h : x < l.length) : cget l x ≤ maxI l := by
  have key : ∀ (r : List Int) (m : Int), m ≤ r.foldl max m ∧ ∀ a ∈ r, a ≤ r.foldl max m := by
    intro r
    induction r with
    | nil => intro m; exact ⟨Int.le_refl _, fun a ha => by cases ha⟩
    | cons b r ih =>
      intro m
      rw [List.foldl_cons]
      obtain ⟨h1, h2⟩ := ih (max m b)
      refine ⟨by omega, fun a ha => ?_⟩
      rcases List.mem_cons.1 ha with rfl | ha
      · omega
      · exact h2 a ha
  cases l with
  | nil => simp at h
  | cons a l =>
    unfold maxI
    have e : cget (a :: l) 0 = a := rfl
    rw [e]
    simp only [List.drop_succ_cons, List.drop_zero]
    obtain ⟨h1, h2⟩ := key l a
    cases x with
    | zero => exact h1
    | succ x =>
      have hx : x < l.length := by simpa using h
      have : cget (a :: l) (x + 1) = l[x] := by simp [cget, List.getD, hx]
      rw [this]; exact h2 _ (List.getElem_mem hx)
/-- What the numbers are. -/
structure NmR (n : Nat) (c d : List Int) : Prop where
  eq : nums c = (lwNums d).1
  len : (nums c).length = n
  lo : ∀ x, x < n → (cget (nums c) x < 0 ↔ cget c x < 0)
  m1 : ∀ x, x < n → -1 ≤ cget (nums c) x
  hi : ∀ x, x < n → cget (nums c) x < (lwNums d).2
  mx : 0 < n → maxI (nums c) + 1 = (lwNums d).2
theorem num_all {n : Nat} {c d : List Int} (hc : c.length = n) (hd : d.length = n) (h : Sm n c d) (hL : Lst n d) (hm : ∀ x, x < n → cget c x < 0 → cget c x = -1) : NmR n c d := by
  have I := num_same hc hd h hL hm n (Nat.le_refl _)
  have M := numMax hc hd h hL hm n (Nat.le_refl _)
  rw [List.take_of_length_le (by omega)] at I
  have e1 : (c.foldl numS ([-1], [])).2 = nums c := rfl
  have e2 : (List.range' 0 n).foldl (lwN d) ([], 0) = lwNums d := by unfold lwNums; rw [hd]
  rw [e2] at I M
  have hcnt := I.cnt
  have hhi : ∀ x, x < n → -1 ≤ cget (nums c) x ∧ cget (nums c) x < (lwNums d).2 := fun x hx => by
    obtain ⟨h1, h2⟩ := I.inn x hx
    rw [e1] at h2
    have := List.idxOf_lt_length_of_mem h1
    rw [h2]; omega
  refine ⟨I.eq, I.len, fun x hx => ?_, fun x hx => (hhi x hx).1, fun x hx => (hhi x hx).2, fun h0 => ?_⟩
  · obtain ⟨h1, h2⟩ := I.inn x hx
    rw [e1] at h2
    constructor
    · intro h3
      have h4 : (c.foldl numS ([-1], [])).1.idxOf (cget c x) = 0 := by omega
      have h5 := List.getElem_idxOf (List.idxOf_lt_length_of_mem h1)
      have h6 := List.getElem_idxOf (List.idxOf_lt_length_of_mem I.neg)
      simp only [h4] at h5
      simp only [I.n0] at h6
      rw [h5] at h6
      omega
    · intro h3
      rw [hm x hx h3, I.n0] at h2
      omega
  · have hlen : 0 < (nums c).length := by rw [← e1, I.len]; exact h0
    have hle : (nums c).length = n := by rw [← e1, I.len]
    obtain ⟨x, hx, hxe⟩ := List.getElem_of_mem (maxI_mem hlen)
    rw [cget_eq hx] at hxe
    have h1 := hhi x (by omega)
    rcases M with h2 | ⟨y, hy, h2⟩
    · have := h1.1; rw [← hxe]; omega
    · rw [← I.eq, e1] at h2
      have := maxI_ge (l := nums c) (x := y) (by omega)
      rw [← hxe] at this ⊢
      omega
end Go.Proofs.YtfhgnlkdcdlblaaDoor
/- SupervisorReduces, plain law, part 5: the reduced supervisor of the program is that of the law. -/
namespace Go.Proofs.YtfhgnlkdcdlblaaDoor
open Go.Lg

/-! ### The law's automaton -/
def lwTo1 (s : Aut) (l : List Ctl) (nm : List Int) (c : Nat) (e : Int) (t : Int) (x : Nat) : Int := if cget nm x = (c : Int) ∧ e ∈ (lget l x).en then cget nm (nxt s.ed x e).toNat else t
def lwTo (s : Aut) (l : List Ctl) (nm : List Int) (k c : Nat) (e : Int) : Int := (List.range' 0 k).foldl (lwTo1 s l nm c e) (-1)
def lwMk1 (l : List Ctl) (nm : List Int) (c x : Nat) : Bool := decide (cget nm x = (c : Int)) && (lget l x).mk' && (lget l x).ps
def lwMk (l : List Ctl) (nm : List Int) (k c : Nat) : Bool := (List.range' 0 k).any (lwMk1 l nm c)
def lwG (s : Aut) (l : List Ctl) (nm : List Int) (k c : Nat) (e : Int) : Option Ed := if 0 ≤ lwTo s l nm k c e then some ((c : Int), e, lwTo s l nm k c e) else none
def lwAut (s : Aut) (l : List Ctl) (nm : List Int) (k n : Nat) : Aut := ⟨s.al, (n : Int), ((List.range' 0 n).filter (lwMk l nm k)).map fun c : Nat => (c : Int), grid (lwG s l nm k) s.al n⟩
theorem lwTo_succ (s : Aut) (l : List Ctl) (nm : List Int) (k c : Nat) (e : Int) : lwTo s l nm (k + 1) c e = lwTo1 s l nm c e (lwTo s l nm k c e) k := by
  unfold lwTo; rw [List.range'_1_concat, List.foldl_append, Nat.zero_add]; rfl
theorem lwMk_succ (l : List Ctl) (nm : List Int) (k c : Nat) : lwMk l nm (k + 1) c = (lwMk l nm k c || lwMk1 l nm c k) := by
  unfold lwMk; rw [List.range'_1_concat, List.any_append, Nat.zero_add]; simp
theorem lwG_ok (s : Aut) (l : List Ctl) (nm : List Int) (k : Nat) : GridOk (lwG s l nm k) := by
  intro c e d h
  unfold lwG at h
  split at h
  · cases h; exact ⟨rfl, rfl⟩
  · cases h
/-! ### The program's maps -/
theorem redE_fold (s : Aut) (cls : List Int) (x : Nat) (c : Int) (v : Int) : ∀ (vs : List Int) (m : List ((Int × Int) × Int)), gget (vs.foldl (redE s cls x) m) (c, v) = if c = cget cls x ∧ v ∈ vs then some (cget cls (to0 s x v).toNat) else gget m (c, v)
  | [], m => by simp
  | u :: vs, m => by
    rw [List.foldl_cons, redE_fold s cls x c v vs]
    unfold redE
    rw [gget_gput]
    by_cases hc : c = cget cls x
    · by_cases hv : v ∈ vs
      · rw [if_pos ⟨hc, hv⟩, if_pos ⟨hc, List.mem_cons_of_mem _ hv⟩]
      · rw [if_neg (fun e => hv e.2)]
        by_cases hu : u = v
        · subst hu
          rw [if_pos (by rw [hc]), if_pos ⟨hc, List.mem_cons_self⟩]
        · rw [if_neg (fun e => hu (by simpa using (Prod.mk.inj e).2)), if_neg (fun e => by
            rcases List.mem_cons.1 e.2 with h | h
            · exact hu h.symm
            · exact hv h)]
    · rw [if_neg (fun e => hc e.1), if_neg (fun e => hc ((Prod.mk.inj e).1.symm)), if_neg (fun e => hc e.1)]
section
variable {s : Aut} {l : List Ctl} {n : Nat} {nm : List Int}
/-- What is known of the numbers. -/
structure NmK (s : Aut) (l : List Ctl) (n m : Nat) (nm : List Int) : Prop where
  len : nm.length = n
  hi : ∀ x, x < n → cget nm x < (m : Int)
  nx : Nx s l n
  to : ∀ x, x < n → 0 ≤ cget nm x → ∀ e ∈ (lget l x).en, (to0 s x e).toNat < n ∧ 0 ≤ cget nm (to0 s x e).toNat
structure RdI (s : Aut) (l : List Ctl) (nm : List Int) (k : Nat) (z : List Int × List ((Int × Int) × Int)) : Prop where
  inc : Inc z.1
  mem : ∀ b, b ∈ z.1 ↔ ∃ c : Nat, b = (c : Int) ∧ lwMk l nm k c = true
  get : ∀ (c : Nat) (e : Int), gget z.2 ((c : Int), e) = if 0 ≤ lwTo s l nm k c e then some (lwTo s l nm k c e) else none
theorem red_step {m : Nat} (h : NmK s l n m nm) : ∀ k, k ≤ n → RdI s l nm k ((List.range' 0 k).foldl (redX s l nm) ([], []))
  | 0, _ => ⟨by simp, fun b => by simp [lwMk], fun c e => by simp [lwTo, gget]⟩
  | k + 1, hk => by
    have ih := red_step h k (by omega)
    rw [List.range'_1_concat, List.foldl_append, Nat.zero_add]
    simp only [List.foldl_cons, List.foldl_nil]
    generalize (List.range' 0 k).foldl (redX s l nm) ([], []) = z at ih
    have hk' : k < n := by omega
    unfold redX
    by_cases hneg : cget nm k < 0
    · rw [if_pos hneg]
      refine ⟨ih.inc, fun b => ?_, fun c e => ?_⟩
      · rw [ih.mem b]
        have : ∀ c : Nat, lwMk l nm (k + 1) c = lwMk l nm k c := fun c => by
          rw [lwMk_succ]; unfold lwMk1; rw [decide_eq_false (by omega)]; simp
        constructor
        · rintro ⟨c, h1, h2⟩; exact ⟨c, h1, by rw [this]; exact h2⟩
        · rintro ⟨c, h1, h2⟩; exact ⟨c, h1, by rw [this] at h2; exact h2⟩
      · have : lwTo s l nm (k + 1) c e = lwTo s l nm k c e := by rw [lwTo_succ]; unfold lwTo1; rw [if_neg (by omega)]
        rw [this]; exact ih.get c e
    · rw [if_neg hneg]
      refine ⟨?_, fun b => ?_, fun c e => ?_⟩
      · simp only []
        split
        · exact uni1_inc ih.inc _
        · exact ih.inc
      · simp only []
        have hsucc : ∀ c : Nat, lwMk l nm (k + 1) c = true ↔ lwMk l nm k c = true ∨ (cget nm k = (c : Int) ∧ ((lget l k).mk' && (lget l k).ps) = true) := fun c => by
          rw [lwMk_succ, Bool.or_eq_true]
          unfold lwMk1
          simp only [Bool.and_eq_true, decide_eq_true_eq]
          constructor
          · rintro (a | ⟨⟨a, b⟩, c⟩)
            · exact .inl a
            · exact .inr ⟨a, b, c⟩
          · rintro (a | ⟨a, b, c⟩)
            · exact .inl a
            · exact .inr ⟨⟨a, b⟩, c⟩
        by_cases hm : ((lget l k).mk' && (lget l k).ps) = true
        · rw [if_pos hm, uni1_mem ih.inc, ih.mem b]
          constructor
          · rintro (⟨c, a, a2⟩ | a)
            · exact ⟨c, a, (hsucc c).2 (.inl a2)⟩
            · exact ⟨(cget nm k).toNat, by omega, (hsucc _).2 (.inr ⟨by omega, hm⟩)⟩
          · rintro ⟨c, a, a2⟩
            rcases (hsucc c).1 a2 with a3 | ⟨a3, _⟩
            · exact .inl ⟨c, a, a3⟩
            · exact .inr (by omega)
        · rw [if_neg hm, ih.mem b]
          constructor
          · rintro ⟨c, a, a2⟩; exact ⟨c, a, (hsucc c).2 (.inl a2)⟩
          · rintro ⟨c, a, a2⟩
            rcases (hsucc c).1 a2 with a3 | ⟨_, a3⟩
            · exact ⟨c, a, a3⟩
            · exact absurd a3 hm
      · simp only []
        rw [redE_fold, lwTo_succ]
        unfold lwTo1
        by_cases hc : cget nm k = (c : Int) ∧ e ∈ (lget l k).en
        · obtain ⟨n1, _⟩ := h.nx k hk' e hc.2
          obtain ⟨_, t2⟩ := h.to k hk' (by omega) e hc.2
          rw [if_pos hc, if_pos ⟨hc.1.symm, hc.2⟩, n1, if_pos t2]
        · rw [if_neg hc, if_neg (fun a => hc ⟨a.1.symm, a.2⟩)]
          exact ih.get c e
theorem lwTo_hi {m : Nat} (h : NmK s l n m nm) (hm : 0 < m) : ∀ k, k ≤ n → ∀ (c : Nat) (e : Int), lwTo s l nm k c e < (m : Int)
  | 0, _, c, e => by simp [lwTo]; omega
  | k + 1, hk, c, e => by
    have ih := lwTo_hi h hm k (by omega) c e
    rw [lwTo_succ]
    unfold lwTo1
    split
    · rename_i hc
      have hk' : k < n := by omega
      obtain ⟨n1, _⟩ := h.nx k hk' e hc.2
      obtain ⟨t1, _⟩ := h.to k hk' (by omega) e hc.2
      rw [n1]; exact h.hi _ t1
    · exact ih
theorem lwMk_hi {m : Nat} (h : NmK s l n m nm) {k c : Nat} (hk : k ≤ n) (hc : lwMk l nm k c = true) : c < m := by
  unfold lwMk at hc
  rw [List.any_eq_true] at hc
  obtain ⟨x, hx, h1⟩ := hc
  rw [List.mem_range'_1] at hx
  unfold lwMk1 at h1
  simp only [Bool.and_eq_true, decide_eq_true_eq] at h1
  have := h.hi x (by omega)
  omega
/-- The automaton of the classes is the law's. -/
theorem redA_eq {m : Nat} (h : NmK s l n m nm) (hmx : maxI nm + 1 = (m : Int)) : redA s l nm = lwAut s l nm n m := by
  have R := red_step h n (Nat.le_refl _)
  have hz : redZ s l nm = (List.range' 0 n).foldl (redX s l nm) ([], []) := by unfold redZ; rw [h.len]
  rw [← hz] at R
  unfold redA lwAut
  have e1 : (redZ s l nm).1 = ((List.range' 0 m).filter (lwMk l nm n)).map fun c : Nat => (c : Int) := by
    refine Inc.ext R.inc ?_ fun b => ?_
    · unfold Inc
      rw [List.pairwise_map]
      refine List.Pairwise.sublist List.filter_sublist ?_
      exact (List.pairwise_lt_range' (s := 0) (n := m)).imp (fun h => by omega)
    · rw [R.mem b, List.mem_map]
      constructor
      · rintro ⟨c, rfl, h2⟩
        exact ⟨c, List.mem_filter.2 ⟨by rw [List.mem_range'_1]; have := lwMk_hi h (Nat.le_refl _) h2; omega, h2⟩, rfl⟩
      · rintro ⟨c, h2, rfl⟩
        exact ⟨c, rfl, (List.mem_filter.1 h2).2⟩
  have e2 : redR (redZ s l nm).2 s.al (maxI nm + 1).toNat = grid (lwG s l nm n) s.al m := by
    rw [hmx, Int.toNat_natCast]
    unfold redR grid
    refine flatMap_congr' fun c _ => fm_congr fun e _ => ?_
    unfold redF lwG
    rw [R.get c e]
    split <;> rfl
  rw [hmx, e1]
  rw [hmx] at e2
  rw [e2]
theorem lwAut_okay {m : Nat} (hs : Okay s) (h : NmK s l n m nm) (hm : m ≤ 4096) : Okay (lwAut s l nm n m) := by
  refine ⟨hs.al, hs.ali, by simp [lwAut], by simp only [lwAut]; omega, fun b hb => ?_, ?_, fun d hd => ?_, ?_⟩
  · simp only [lwAut, List.mem_map, List.mem_filter, List.mem_range'_1] at hb ⊢
    obtain ⟨c, ⟨hc, _⟩, rfl⟩ := hb
    omega
  · simp only [lwAut]
    unfold Inc
    rw [List.pairwise_map]
    refine List.Pairwise.sublist List.filter_sublist ?_
    exact (List.pairwise_lt_range' (s := 0) (n := m)).imp (fun h => by omega)
  · simp only [lwAut] at hd ⊢
    obtain ⟨c, e, hc, he, hg⟩ := grid_mem hd
    unfold lwG at hg
    split at hg
    · rename_i h0
      cases hg
      have := lwTo_hi h (by omega) n (Nat.le_refl _) c e
      exact ⟨by omega, by omega, he, h0, this⟩
    · cases hg
  · exact grid_pw (lwG_ok s l nm n) hs.ali _
end
theorem cget_ge {l : List Int} {x : Nat} (h : l.length ≤ x) : cget l x = 0 := by unfold cget; rw [List.getD_eq_getElem?_getD, List.getElem?_eq_none h]; rfl
/-! ### All together -/
def lwCls (p s : Aut) : List Int := lwA s (ctls p s (opQ p s)) (lw0 s.st.toNat (opQ p s))
def lwRed (p s : Aut) : Aut := lwAut s (ctls p s (opQ p s)) (lwNums (lwCls p s)).1 s.st.toNat (lwNums (lwCls p s)).2
structure RedR (p s : Aut) : Prop where
  cls : clsOf p s (opQ p s) = (lwNums (lwCls p s)).1
  nk : NmK s (ctls p s (opQ p s)) s.st.toNat (lwNums (lwCls p s)).2 (lwNums (lwCls p s)).1
  ok : Okay (lwRed p s)
  e0 : rdE p s = 0
  eq : rdA p s = canA (lwRed p s)
  tr : TrI s (ctls p s (opQ p s)) s.st.toNat (clsA s (ctls p s (opQ p s)) (lw0 s.st.toNat (opQ p s))) (lwCls p s)
theorem red_law {p s : Aut} (h0 : opE p s = 0) : RedR p s := by
  obtain ⟨hp, hs, _, hv, hl⟩ := opE_zero h0
  obtain ⟨hSy, hOA, hQz⟩ := opE_syP h0
  have hst1 := hs.st1
  have hiA := ctls_incA hp hs hv
  have hnx := ctls_nx hp hs hv
  have T0 := lw0_tri hp hs hSy
  have T := cls_same hiA hnx T0
  have hN0 : Ng (lw0 s.st.toNat (opQ p s)) := fun x hx => by
    rcases Nat.lt_or_ge x s.st.toNat with hlt | hge
    · rw [cget_lw0 hlt] at hx ⊢
      split at hx
      · omega
      · rename_i e; rw [if_neg e]
    · have : cget (lw0 s.st.toNat (opQ p s)) x = 0 := cget_ge (by simp [lw0]; omega)
      omega
  have hN := clsA_ng hiA hnx T0 hN0
  have NR := num_all T.lc T.ld T.sm T.ls (fun x _ h => hN x h)
  have hcls : clsOf p s (opQ p s) = nums (clsA s (ctls p s (opQ p s)) (lw0 s.st.toNat (opQ p s))) := by unfold clsOf; rw [cls0_eq hv]
  have hto : ∀ x, x < s.st.toNat → 0 ≤ cget (nums (clsA s (ctls p s (opQ p s)) (lw0 s.st.toNat (opQ p s)))) x → ∀ e ∈ (lget (ctls p s (opQ p s)) x).en, (to0 s x e).toNat < s.st.toNat ∧ 0 ≤ cget (nums (clsA s (ctls p s (opQ p s)) (lw0 s.st.toNat (opQ p s)))) (to0 s x e).toNat := fun x hx hx0 e he => by
    have h1 := NR.lo x hx
    obtain ⟨a, b⟩ := T.oc x hx (by omega) e he
    have h2 := NR.lo _ a
    exact ⟨a, by omega⟩
  have nk : NmK s (ctls p s (opQ p s)) s.st.toNat (lwNums (lwCls p s)).2 (lwNums (lwCls p s)).1 := by
    have hi := NR.hi
    have len := NR.len
    rw [NR.eq] at hto hi len
    exact ⟨len, hi, hnx, hto⟩
  have hcnt : (lwNums (lwCls p s)).2 ≤ s.st.toNat := by
    have := num_same T.lc T.ld T.sm T.ls (fun x _ h => hN x h) s.st.toNat (Nat.le_refl _)
    have key : ∀ (d : List Int) (k : Nat), ((List.range' 0 k).foldl (lwN d) ([], 0)).2 ≤ k := by
      intro d k
      induction k with
      | zero => exact Nat.le_refl _
      | succ k ih =>
        rw [List.range'_1_concat, List.foldl_append, Nat.zero_add]
        simp only [List.foldl_cons, List.foldl_nil]
        generalize (List.range' 0 k).foldl (lwN d) ([], 0) = z at ih
        unfold lwN
        split
        · exact Nat.le_succ_of_le ih
        · split
          · exact Nat.succ_le_succ ih
          · exact Nat.le_succ_of_le ih
    unfold lwNums
    have hl2 : (lwCls p s).length = s.st.toNat := T.ld
    rw [hl2]
    exact key _ _
  have ok : Okay (lwRed p s) := lwAut_okay hs nk (by omega)
  have hst0 := hs.st0
  refine ⟨hcls.trans NR.eq, nk, ok, ?_, ?_, T⟩
  · unfold rdE
    rw [if_neg (by simpa using h0)]
    split
    · rfl
    · rename_i hq
      have hne : ¬ s.st = 0 := fun e => hq (List.eq_nil_of_length_eq_zero (hQz.2 (.inr e)))
      have e : red p s = lwRed p s := by
        unfold red
        rw [hcls, NR.eq]
        have hmx := NR.mx (by omega)
        rw [NR.eq] at hmx
        exact redA_eq nk hmx
      rw [e]; exact (ckA_zero _).2 ok
  · unfold rdA
    split
    · rename_i hq
      -- nothing occurs
      have hz : (lwNums (lwCls p s)).2 = 0 := by
        have hd : ∀ x, x < s.st.toNat → cget (lwCls p s) x < 0 := fun x hx => by
          have h1 : cget (lwCls p s) x < 0 ↔ _ := T.sm.sg x hx
          have hsg : ∀ x, x < s.st.toNat → (cget (clsA s (ctls p s (opQ p s)) (lw0 s.st.toNat (opQ p s))) x < 0 ↔ cget (lw0 s.st.toNat (opQ p s)) x < 0) := by
            have key : TrI s (ctls p s (opQ p s)) s.st.toNat (clsA s (ctls p s (opQ p s)) (lw0 s.st.toNat (opQ p s))) (lwCls p s) ∧ ∀ x, x < s.st.toNat → (cget (clsA s (ctls p s (opQ p s)) (lw0 s.st.toNat (opQ p s))) x < 0 ↔ cget (lw0 s.st.toNat (opQ p s)) x < 0) := by
              unfold lwCls clsA lwA
              rw [T0.lc]
              refine fold_two (P := fun x => x < s.st.toNat) (I := fun c d => TrI s (ctls p s (opQ p s)) s.st.toNat c d ∧ ∀ x, x < s.st.toNat → (cget c x < 0 ↔ cget (lw0 s.st.toNat (opQ p s)) x < 0)) (fun c d x hx hI => ?_) _ _ _ (fun x hx => by rw [List.mem_range'_1] at hx; omega) ⟨T0, fun _ _ => Iff.rfl⟩
              unfold tryX lwTX
              refine fold_two (f := fun c y => tryC s (ctls p s (opQ p s)) c x y) (g := fun d y => lwTry s (ctls p s (opQ p s)) d x y) (P := fun y => y < s.st.toNat) (I := fun c d => TrI s (ctls p s (opQ p s)) s.st.toNat c d ∧ ∀ x, x < s.st.toNat → (cget c x < 0 ↔ cget (lw0 s.st.toNat (opQ p s)) x < 0)) (fun c d y hy hI => ⟨try_same hiA hnx hI.1 hx hy, fun q hq => ?_⟩) (List.range' (x + 1) (s.st.toNat - (x + 1))) c d (fun y hy => by rw [List.mem_range'_1] at hy; omega) hI
              rw [← hI.2 q hq]
              unfold tryC
              split
              · exact Iff.rfl
              · rename_i h1
                have hc0 : 0 ≤ cget c x := by omega
                have hc1 : 0 ≤ cget c y := by omega
                have K1 := closeC_spec (s := s) (fun x hx => (hiA x hx).1) (c.length * c.length + 1) (mergeC c x y) (by rw [mergeC_len]; exact hI.1.lc) (hI.1.oc.of fun q hq => merge_sign hI.1.lc hc0 hc1 hq) (by have := uneq_le (mergeC c x y); rw [mergeC_len] at this; omega)
                simp only []
                split
                · rw [K1.sg q hq, merge_sign hI.1.lc hc0 hc1 hq]
                · exact Iff.rfl
            exact key.2
          have h2 := hsg x hx
          have h3 : occB (opQ p s) x = false := by rw [hq]; rfl
          rw [cget_lw0 hx, h3, if_neg (by simp)] at h2
          rw [h1, h2]; decide
        have key : ∀ k, k ≤ s.st.toNat → ((List.range' 0 k).foldl (lwN (lwCls p s)) ([], 0)).2 = 0 := by
          intro k
          induction k with
          | zero => intro _; rfl
          | succ k ih =>
            intro hk
            rw [List.range'_1_concat, List.foldl_append, Nat.zero_add]
            simp only [List.foldl_cons, List.foldl_nil]
            unfold lwN
            rw [if_pos (hd k (by omega))]
            exact ih (by omega)
        unfold lwNums
        rw [show (lwCls p s).length = s.st.toNat from T.ld]
        exact key _ (Nat.le_refl _)
      unfold canA lwRed lwAut
      rw [hz]
      rfl
    · rename_i hq
      have hne : ¬ s.st = 0 := fun e => hq (List.eq_nil_of_length_eq_zero (hQz.2 (.inr e)))
      have e : red p s = lwRed p s := by
        unfold red
        rw [hcls, NR.eq]
        have hmx := NR.mx (by omega)
        rw [NR.eq] at hmx
        exact redA_eq nk hmx
      rw [e]
end Go.Proofs.YtfhgnlkdcdlblaaDoor
/- Supervisors that do the same with a plant: a relation of their states; then Equivalent finds no word. -/
namespace Go.Proofs.YtfhgnlkdcdlblaaDoor
open Go.Lg

theorem eqS_all {a b : Aut} {Rl : Int → Int → Prop} {al : List Int} (hs : ∀ x y v, v ∈ al → Rl x y → Rl (nxt a.ed x v) (nxt b.ed y v)) {e : En} (he : Rl e.x e.y) : ∀ (vs : List Int) (L : List En), (∀ v ∈ vs, v ∈ al) → (∀ d ∈ L, Rl d.x d.y) → ∀ d ∈ vs.foldl (eqS a b e) L, Rl d.x d.y
  | [], L, _, h => h
  | v :: vs, L, hv, h => by
    refine eqS_all hs he vs (eqS a b e L v) (fun u hu => hv u (List.mem_cons_of_mem _ hu)) fun d hd => ?_
    unfold eqS at hd
    split at hd
    · rcases List.mem_append.1 hd with hd | hd
      · exact h d hd
      · simp only [List.mem_singleton] at hd
        subst hd
        exact hs e.x e.y v (hv v List.mem_cons_self) he
    · exact h d hd
theorem eqL_none {a b : Aut} {Rl : Int → Int → Prop} {al : List Int} (hs : ∀ x y v, v ∈ al → Rl x y → Rl (nxt a.ed x v) (nxt b.ed y v)) (hd : ∀ x y, Rl x y → dfr a b x y = false) : ∀ (f i : Nat) (L : List En), (∀ d ∈ L, Rl d.x d.y) → eqL a b al f i L = none
  | 0, _, _, _ => rfl
  | f + 1, i, L, h => by
    rw [eqL]
    split
    · rename_i hi
      have hm : L.getD i en0 ∈ L := by simp [List.getD, hi]
      rw [if_neg (by rw [hd _ _ (h _ hm)]; simp)]
      exact eqL_none hs hd f (i + 1) _ (eqS_all hs (h _ hm) al L (fun _ h => h) h)
    · rfl
theorem eqv_none {a b : Aut} {Rl : Int → Int → Prop} {al : List Int} (h0 : Rl (if 0 < a.st then 0 else -1) (if 0 < b.st then 0 else -1)) (hs : ∀ x y v, v ∈ al → Rl x y → Rl (nxt a.ed x v) (nxt b.ed y v)) (hd : ∀ x y, Rl x y → dfr a b x y = false) : eqv a b al = none :=
  eqL_none hs hd _ _ _ (fun d hd => by simp only [eqI, List.mem_singleton] at hd; subst hd; exact h0)
/-- A relation of the states of two supervisors of a plant. -/
structure Bis (p s t : Aut) (R : Int → Int → Int → Prop) : Prop where
  init : R 0 0 0
  step : ∀ pn xn yn, R pn xn yn → ∀ v ∈ p.al, (stepT v [p, s] [pn, xn] = none ∧ stepT v [p, t] [pn, yn] = none) ∨ ∃ p' x' y', stepT v [p, s] [pn, xn] = some [p', x'] ∧ stepT v [p, t] [pn, yn] = some [p', y'] ∧ R p' x' y'
  mark : ∀ pn xn yn, R pn xn yn → markT [p, s] [pn, xn] = markT [p, t] [pn, yn]
theorem Bis.comp {p s r t : Aut} {R1 R2 : Int → Int → Int → Prop} (h : Bis p s r R1) (k : Bis p r t R2) : Bis p s t (fun pn xn yn => ∃ c, R1 pn xn c ∧ R2 pn c yn) := by
  refine ⟨⟨0, h.init, k.init⟩, ?_, ?_⟩
  · rintro pn xn yn ⟨c, h1, h2⟩ v hv
    rcases h.step pn xn c h1 v hv with ⟨a1, a2⟩ | ⟨p', x', c', a1, a2, a3⟩
    · rcases k.step pn c yn h2 v hv with ⟨b1, b2⟩ | ⟨p', c', y', b1, b2, b3⟩
      · exact .inl ⟨a1, b2⟩
      · rw [a2] at b1; cases b1
    · rcases k.step pn c yn h2 v hv with ⟨b1, b2⟩ | ⟨p'', c'', y', b1, b2, b3⟩
      · rw [a2] at b1; cases b1
      · rw [a2] at b1
        simp only [Option.some.injEq, List.cons.injEq, and_true] at b1
        obtain ⟨rfl, rfl⟩ := b1
        exact .inr ⟨p', x', y', a1, b2, c', a3, b3⟩
  · rintro pn xn yn ⟨c, h1, h2⟩
    exact (h.mark pn xn c h1).trans (k.mark pn c yn h2)
theorem SyP.mem_mr {aa : List Aut} {A : Aut} {Q : List (List Int)} (h : SyP aa A Q) {j : Nat} (hj : j < Q.length) : decide ((j : Int) ∈ A.mr) = markT aa (Q.getD j []) := by
  rw [h.mk2]
  rw [Bool.eq_iff_iff]
  simp only [decide_eq_true_eq, List.mem_map, List.mem_filter, List.mem_range'_1]
  constructor
  · rintro ⟨i, ⟨_, h2⟩, h3⟩
    have : i = j := by omega
    subst this; exact h2
  · intro h2; exact ⟨j, ⟨by omega, h2⟩, rfl⟩
theorem bis_none {p s t A B : Aut} {QA QB : List (List Int)} (hA : SyP [p, s] A QA) (hB : SyP [p, t] B QB) (ea : evs [p, s] = p.al) (eb : evs [p, t] = p.al) (hoA : Okay A) (hoB : Okay B) {R : Int → Int → Int → Prop} (h : Bis p s t R) (hz : QA.length = 0 ↔ QB.length = 0) : eqv A B p.al = none := by
  have hstA := hA.st
  have hstB := hB.st
  refine eqv_none (Rl := fun x y => (x = -1 ∧ y = -1) ∨ ∃ i j : Nat, x = i ∧ y = j ∧ i < QA.length ∧ j < QB.length ∧ ∃ pn xn yn, QA.getD i [] = [pn, xn] ∧ QB.getD j [] = [pn, yn] ∧ R pn xn yn) ?_ ?_ ?_
  · by_cases h0 : QA.length = 0
    · left
      have := hz.1 h0
      rw [if_neg (by omega), if_neg (by omega)]; exact ⟨rfl, rfl⟩
    · have h1 : ¬ QB.length = 0 := fun e => h0 (hz.2 e)
      right
      rw [if_pos (by omega), if_pos (by omega)]
      exact ⟨0, 0, rfl, rfl, by omega, by omega, 0, 0, 0, hA.hd (by omega), hB.hd (by omega), h.init⟩
  · rintro x y v hv (⟨rfl, rfl⟩ | ⟨i, j, rfl, rfl, hi, hj, pn, xn, yn, h1, h2, h3⟩)
    · left
      have key : ∀ {a : Aut}, Okay a → nxt a.ed (-1) v = -1 := fun {a} ho => by
        rw [nxt_eget]
        cases hg : eget a.ed (-1) v with
        | none => rfl
        | some u => have := (ho.ed _ (eget_mem hg)).1; simp only [] at this; omega
      exact ⟨key hoA, key hoB⟩
    · have sA := hA.step hi v
      have sB := hB.step hj v
      rw [if_pos (by rw [ea]; exact hv), h1] at sA
      rw [if_pos (by rw [eb]; exact hv), h2] at sB
      rcases h.step pn xn yn h3 v hv with ⟨a1, a2⟩ | ⟨p', x', y', a1, a2, a3⟩
      · left
        rw [a1] at sA
        rw [a2] at sB
        rw [nxt_eget, nxt_eget, sA, sB]; exact ⟨rfl, rfl⟩
      · right
        have tA := hA.to hi (by rw [ea]; exact hv) (by rw [h1]; exact a1)
        have tB := hB.to hj (by rw [eb]; exact hv) (by rw [h2]; exact a2)
        rw [a1] at sA
        rw [a2] at sB
        refine ⟨QA.idxOf [p', x'], QB.idxOf [p', y'], ?_, ?_, tA.1, tB.1, p', x', y', tA.2, tB.2, a3⟩
        · rw [nxt_eget, sA]; rfl
        · rw [nxt_eget, sB]; rfl
  · rintro x y (⟨rfl, rfl⟩ | ⟨i, j, rfl, rfl, hi, hj, pn, xn, yn, h1, h2, h3⟩)
    · unfold dfr
      have ma : decide ((-1 : Int) ∈ A.mr) = false := decide_eq_false fun hm => by have := (hoA.mr _ hm).1; omega
      have mb : decide ((-1 : Int) ∈ B.mr) = false := decide_eq_false fun hm => by have := (hoB.mr _ hm).1; omega
      rw [ma, mb]; rfl
    · unfold dfr
      rw [hA.mem_mr hi, hB.mem_mr hj, h1, h2, h.mark pn xn yn h3, decide_eq_false (show ¬ (i : Int) = -1 by omega), decide_eq_false (show ¬ (j : Int) = -1 by omega)]
      simp
/-- The closed loop is a supervisor that does the same. -/
theorem bis_loop {p s A : Aut} {QA : List (List Int)} (hp : Okay p) (hs : Okay s) (hsub : ∀ x ∈ s.al, x ∈ p.al) (hA : SyP [p, s] A QA) (h0 : 0 < QA.length) : Bis p s A (fun pn xn yn => ∃ j : Nat, yn = j ∧ j < QA.length ∧ QA.getD j [] = [pn, xn]) := by
  have ea := evs_two hp hs hsub
  refine ⟨⟨0, rfl, h0, hA.hd h0⟩, ?_, ?_⟩
  · rintro pn xn yn ⟨j, rfl, hj, hq⟩ v hv
    have sA := hA.step hj v
    rw [if_pos (by rw [ea]; exact hv), hq] at sA
    have hAal : v ∈ A.al := by rw [hA.al, ea]; exact hv
    cases hst : stepT v [p, s] [pn, xn] with
    | none =>
      left
      refine ⟨rfl, ?_⟩
      rw [hst] at sA
      rw [stepT, if_neg (fun h => h hv)]
      cases eget p.ed pn v with
      | none => rfl
      | some u =>
        simp only []
        rw [stepT, if_neg (fun h => h hAal), sA]; rfl
    | some t =>
      right
      have hv2 := stepT_valid (aa := [p, s]) (fun a ha => by simp only [List.mem_cons, List.not_mem_nil, or_false] at ha; rcases ha with rfl | rfl; exact hp; exact hs) (hA.v _ (by rw [← hq]; simp [List.getD, hj])) hst
      obtain ⟨a, b, rfl, _, _⟩ := Vt2 hv2
      have tA := hA.to hj (by rw [ea]; exact hv) (by rw [hq]; exact hst)
      rw [hst] at sA
      refine ⟨a, b, QA.idxOf [(a : Int), (b : Int)], rfl, ?_, QA.idxOf [(a : Int), (b : Int)], rfl, tA.1, tA.2⟩
      rw [stepT, if_neg (fun h => h hv)] at hst ⊢
      cases hep : eget p.ed pn v with
      | none => rw [hep] at hst; cases hst
      | some u =>
        rw [hep] at hst
        simp only [] at hst ⊢
        rw [stepT, if_neg (fun h => h hAal), sA]
        obtain ⟨u', _, hu⟩ := Option.map_eq_some_iff.1 hst
        simp only [List.cons.injEq] at hu
        rw [hu.1]
        rfl
  · rintro pn xn yn ⟨j, rfl, hj, hq⟩
    have hm := hA.mem_mr hj
    rw [hq] at hm
    have e1 : markT [p, s] [pn, xn] = (decide (pn ∈ p.mr) && (decide (xn ∈ s.mr) && true)) := rfl
    have e2 : markT [p, A] [pn, (j : Int)] = (decide (pn ∈ p.mr) && (decide ((j : Int) ∈ A.mr) && true)) := rfl
    rw [e2, hm, e1]
    cases decide (pn ∈ p.mr) <;> simp
end Go.Proofs.YtfhgnlkdcdlblaaDoor
/- The canonical form as a graph: it does the same as the automaton. -/
namespace Go.Proofs.YtfhgnlkdcdlblaaDoor
open Go.Lg

def cnF (ord : List Int) (j : Nat) (e : Ed) : Ed := ((j : Int), e.2.1, (ord.idxOf e.2.2 : Int))
def cnR (a : Aut) (ord : List Int) (j : Nat) : List Ed := (outE a.ed (getI ord j)).map (cnF ord j)
theorem getI_pre {l r : List Int} {j : Nat} (h : j < l.length) : getI (l ++ r) j = getI l j := by unfold getI; rw [Int.toNat_natCast]; exact cget_pre h
/-- The numbers that have been given. -/
structure NuI (st : Int) (ord num : List Int) : Prop where
  nd : ord.Nodup
  bd : ∀ s ∈ ord, 0 ≤ s ∧ s < st
  nl : num.length = st.toNat
  nu : ∀ k, 0 ≤ k → k < st → getI num k = if k ∈ ord then (ord.idxOf k : Int) else -1
theorem stepE_spec {st : Int} {i : Nat} {c : Cs} (h : NuI st c.ord c.num) {e : Ed} (h0 : 0 ≤ e.2.2) (h1 : e.2.2 < st) : NuI st (stepE i c e).ord (stepE i c e).num ∧ (∃ r, (stepE i c e).ord = c.ord ++ r) ∧ (stepE i c e).mk' = c.mk' ∧ (stepE i c e).ed = c.ed ++ [cnF (stepE i c e).ord i e] ∧ e.2.2 ∈ (stepE i c e).ord := by
  have hn := h.nu e.2.2 h0 h1
  have hlt : e.2.2.toNat < c.num.length := by rw [h.nl]; omega
  unfold stepE
  by_cases hm : e.2.2 ∈ c.ord
  · rw [if_pos hm] at hn
    rw [if_neg (by rw [hn]; omega)]
    refine ⟨h, ⟨[], by simp⟩, rfl, ?_, hm⟩
    simp only [cnF]
    rw [hn]
  · rw [if_neg hm] at hn
    rw [if_pos (by rw [hn]; decide)]
    have hidx : (c.ord ++ [e.2.2]).idxOf e.2.2 = c.ord.length := by rw [List.idxOf_append, if_neg hm]; simp
    refine ⟨⟨nodup_snoc h.nd hm, fun s hs => ?_, by simp [h.nl], fun k k0 k1 => ?_⟩, ⟨[e.2.2], rfl⟩, rfl, ?_, by simp⟩
    · rcases List.mem_append.1 hs with hs | hs
      · exact h.bd s hs
      · simp only [List.mem_singleton] at hs; subst hs; exact ⟨h0, h1⟩
    · simp only []
      by_cases ek : k = e.2.2
      · subst ek
        rw [if_pos (by simp), hidx]
        unfold getI
        simp [List.getD, List.getElem?_set_self hlt]
      · have hne : e.2.2.toNat ≠ k.toNat := by omega
        have e1 : getI (c.num.set e.2.2.toNat c.ord.length) k = getI c.num k := by unfold getI; simp [List.getD, List.getElem?_set_ne hne]
        rw [e1, h.nu k k0 k1]
        by_cases hk : k ∈ c.ord
        · rw [if_pos hk, if_pos (List.mem_append_left _ hk), List.idxOf_append, if_pos hk]
        · rw [if_neg hk, if_neg (fun hmm => by
            rcases List.mem_append.1 hmm with h2 | h2
            · exact hk h2
            · simp only [List.mem_singleton] at h2; exact ek h2)]
    · simp only [cnF]
      rw [hidx]
theorem stepE_fold {st : Int} {i : Nat} : ∀ (es : List Ed) (c : Cs), NuI st c.ord c.num → (∀ e ∈ es, 0 ≤ e.2.2 ∧ e.2.2 < st) → NuI st (es.foldl (stepE i) c).ord (es.foldl (stepE i) c).num ∧ (∃ r, (es.foldl (stepE i) c).ord = c.ord ++ r) ∧ (es.foldl (stepE i) c).mk' = c.mk' ∧
    (es.foldl (stepE i) c).ed = c.ed ++ es.map (cnF (es.foldl (stepE i) c).ord i) ∧ ∀ e ∈ es, e.2.2 ∈ (es.foldl (stepE i) c).ord
  | [], c, h, _ => ⟨h, ⟨[], by simp⟩, rfl, by simp, fun e he => by cases he⟩
  | e :: es, c, h, hb => by
    obtain ⟨b0, b1⟩ := hb e List.mem_cons_self
    obtain ⟨h1, ⟨r1, h2⟩, h3, h4, h5⟩ := stepE_spec (i := i) h b0 b1
    obtain ⟨k1, ⟨r2, k2⟩, k3, k4, k5⟩ := stepE_fold (i := i) es (stepE i c e) h1 (fun d hd => hb d (List.mem_cons_of_mem _ hd))
    rw [List.foldl_cons]
    refine ⟨k1, ⟨r1 ++ r2, by rw [k2, h2, List.append_assoc]⟩, k3.trans h3, ?_, fun d hd => ?_⟩
    · rw [k4, h4, List.append_assoc, List.map_cons]
      have : cnF (stepE i c e).ord i e = cnF (es.foldl (stepE i) (stepE i c e)).ord i e := by
        unfold cnF
        rw [k2, List.idxOf_append, if_pos h5]
      rw [this]; rfl
    · rcases List.mem_cons.1 hd with rfl | hd
      · rw [k2]; exact List.mem_append_left _ h5
      · exact k5 d hd
/-- Before state i is taken. -/
structure CnG (a : Aut) (i : Nat) (c : Cs) : Prop where
  nu : NuI a.st c.ord c.num
  le : i ≤ c.ord.length
  hd : getI c.ord 0 = 0 ∧ 0 < c.ord.length
  mk2 : c.mk' = ((List.range' 0 i).filter fun j : Nat => decide (getI c.ord j ∈ a.mr)).map fun j : Nat => (j : Int)
  ed : c.ed = (List.range' 0 i).flatMap (cnR a c.ord)
  cl : ∀ j, j < i → ∀ e ∈ outE a.ed (getI c.ord j), e.2.2 ∈ c.ord
theorem cnR_pre {a : Aut} {ord r : List Int} {j : Nat} (hj : j < ord.length) (hc : ∀ e ∈ outE a.ed (getI ord j), e.2.2 ∈ ord) : cnR a (ord ++ r) j = cnR a ord j := by
  unfold cnR
  rw [getI_pre hj]
  refine List.map_congr_left fun e he => ?_
  unfold cnF
  rw [List.idxOf_append, if_pos (hc e he)]
theorem CnG.next {a : Aut} (ho : Okay a) {i : Nat} {c : Cs} (h : CnG a i c) (hi : i < c.ord.length) : CnG a (i + 1) (rowC a i c) := by
  unfold rowC
  have hmo : (markC a i c).ord = c.ord := by unfold markC; split <;> rfl
  have hmn : (markC a i c).num = c.num := by unfold markC; split <;> rfl
  have hme : (markC a i c).ed = c.ed := by unfold markC; split <;> rfl
  obtain ⟨k1, ⟨r, k2⟩, k3, k4, k5⟩ := stepE_fold (st := a.st) (i := i) (outE a.ed (getI c.ord i)) (markC a i c) (by rw [hmo, hmn]; exact h.nu) (fun e he => (ho.ed e (outE_mem he).1).2.2.2)
  generalize (outE a.ed (getI c.ord i)).foldl (stepE i) (markC a i c) = d at k1 k2 k3 k4 k5
  rw [hmo] at k2
  rw [hme] at k4
  have pre : ∀ j : Nat, j ≤ i → getI d.ord j = getI c.ord j := fun j hj => by rw [k2]; exact getI_pre (by omega)
  refine ⟨k1, by rw [k2]; simp; omega, ⟨by have := pre 0 (by omega); rw [show ((0 : Nat) : Int) = 0 from rfl] at this; rw [this]; exact h.hd.1, by rw [k2]; simp; omega⟩, ?_, ?_, fun j hj => ?_⟩
  · rw [k3, List.range'_1_concat, List.filter_append, List.map_append, Nat.zero_add]
    have e1 : ((List.range' 0 i).filter fun j : Nat => decide (getI d.ord j ∈ a.mr)) = (List.range' 0 i).filter fun j : Nat => decide (getI c.ord j ∈ a.mr) := by
      refine List.filter_congr fun j hj => ?_
      rw [List.mem_range'_1] at hj
      rw [pre j (by omega)]
    rw [e1]
    unfold markC
    by_cases hm : getI c.ord i ∈ a.mr
    · rw [if_pos hm]
      simp only []
      rw [List.filter_cons, if_pos (by rw [pre i (Nat.le_refl _)]; exact decide_eq_true hm), List.filter_nil, h.mk2]; rfl
    · rw [if_neg hm]
      rw [List.filter_cons, if_neg (by rw [pre i (Nat.le_refl _), decide_eq_false hm]; simp), List.filter_nil, h.mk2]; simp
  · rw [k4, List.range'_1_concat, List.flatMap_append, Nat.zero_add, h.ed]
    congr 1
    · refine flatMap_congr' fun j hj => ?_
      rw [List.mem_range'_1] at hj
      rw [k2]
      exact (cnR_pre (by omega) (h.cl j (by omega))).symm
    · simp only [List.flatMap_cons, List.flatMap_nil, List.append_nil]
      unfold cnR
      rw [pre i (Nat.le_refl _)]
  · by_cases e : j = i
    · subst e; rw [pre j (Nat.le_refl _)]; exact k5
    · intro d' hd'
      rw [pre j (by omega)] at hd'
      rw [k2]; exact List.mem_append_left _ (h.cl j (by omega) d' hd')
theorem canL_spec {a : Aut} (ho : Okay a) : ∀ (f i : Nat) (c : Cs), CnG a i c → ∃ i', CnG a i' (canL a f i c) ∧ ((canL a f i c).ord.length = i' ∨ i' = i + f)
  | 0, i, c, h => ⟨i, h, .inr rfl⟩
  | f + 1, i, c, h => by
    rw [canL]
    split
    · rename_i hi
      obtain ⟨i', h1, h2⟩ := canL_spec ho f (i + 1) _ (h.next ho hi)
      exact ⟨i', h1, by omega⟩
    · exact ⟨i, h, .inl (by have := h.le; omega)⟩
/-- What the canonical form is. -/
structure CnP (a : Aut) (ord : List Int) : Prop where
  nd : ord.Nodup
  bd : ∀ s ∈ ord, 0 ≤ s ∧ s < a.st
  hd : getI ord 0 = 0 ∧ 0 < ord.length
  al : (canA a).al = a.al
  st : (canA a).st = (ord.length : Int)
  mk2 : (canA a).mr = ((List.range' 0 ord.length).filter fun j : Nat => decide (getI ord j ∈ a.mr)).map fun j : Nat => (j : Int)
  ed : (canA a).ed = (List.range' 0 ord.length).flatMap (cnR a ord)
  cl : ∀ j, j < ord.length → ∀ e ∈ outE a.ed (getI ord j), e.2.2 ∈ ord
theorem canA_spec {a : Aut} (ho : Okay a) (h0 : 0 < a.st) : ∃ ord, CnP a ord := by
  have hpos : 0 < a.st.toNat := by omega
  have hI : CnG a 0 (can0 a) := by
    refine ⟨⟨by simp [can0], fun s hs => by simp [can0] at hs; subst hs; omega, by simp [can0], fun k k0 k1 => ?_⟩, Nat.zero_le _, ⟨by simp [can0, getI], by simp [can0]⟩, by simp [can0], by simp [can0], fun j hj => by omega⟩
    by_cases ek : k = 0
    · subst ek
      rw [if_pos (by simp [can0])]
      unfold getI can0
      simp [List.getD, hpos]
    · rw [if_neg (by simpa [can0] using ek)]
      unfold can0
      have hne : 0 ≠ k.toNat := by omega
      have hlt : k.toNat < a.st.toNat := by omega
      unfold getI
      rw [List.getD_eq_getElem?_getD, List.getElem?_set_ne hne]
      simp [hlt]
  obtain ⟨i', h1, h2⟩ := canL_spec ho a.st.toNat 0 (can0 a) hI
  have hlen : (canL a a.st.toNat 0 (can0 a)).ord.length ≤ a.st.toNat := pig _ _ h1.nu.nd (fun x hx => by have := h1.nu.bd x hx; omega)
  have hi' : i' = (canL a a.st.toNat 0 (can0 a)).ord.length := by have := h1.le; omega
  subst hi'
  have hcan : canA a = ⟨a.al, ((canL a a.st.toNat 0 (can0 a)).ord.length : Int), (canL a a.st.toNat 0 (can0 a)).mk', (canL a a.st.toNat 0 (can0 a)).ed⟩ := by unfold canA; rw [if_neg (by omega)]
  refine ⟨(canL a a.st.toNat 0 (can0 a)).ord, h1.nu.nd, h1.nu.bd, h1.hd, by rw [hcan], by rw [hcan], ?_, ?_, h1.cl⟩
  · rw [hcan]; exact h1.mk2
  · rw [hcan]; exact h1.ed
theorem eget_out (es : List Ed) (s v : Int) : eget es s v = eget (outE es s) s v := by
  induction es with
  | nil => rfl
  | cons e es ih =>
    unfold outE at *
    rw [List.filter_cons]
    by_cases h : e.1 = s
    · rw [if_pos (by simpa using h), eget, eget, ih]
    · rw [if_neg (by simpa using h), eget, if_neg (fun c => h c.1), ih]
theorem eget_cnR {a : Aut} {ord : List Int} {j : Nat} (v : Int) : eget (cnR a ord j) j v = (eget a.ed (getI ord j) v).map fun u => (ord.idxOf u : Int) := by
  rw [eget_out a.ed]
  unfold cnR
  have key : ∀ (l : List Ed), (∀ e ∈ l, e.1 = getI ord j) → eget (l.map (cnF ord j)) j v = (eget l (getI ord j) v).map fun u => (ord.idxOf u : Int) := by
    intro l
    induction l with
    | nil => intro _; rfl
    | cons e l ih =>
      intro hl
      rw [List.map_cons, eget, eget]
      have he := hl e List.mem_cons_self
      by_cases hv : e.2.1 = v
      · rw [if_pos ⟨rfl, hv⟩, if_pos ⟨he, hv⟩]; rfl
      · rw [if_neg (fun c => hv c.2), if_neg (fun c => hv c.2)]
        exact ih (fun d hd => hl d (List.mem_cons_of_mem _ hd))
  exact key _ (fun e he => (outE_mem he).2)
theorem eget_cnRne {a : Aut} {ord : List Int} {j i : Nat} (h : j ≠ i) (v : Int) : eget (cnR a ord j) i v = none := by
  refine eget_none fun e he h2 => ?_
  unfold cnR at he
  obtain ⟨d, _, rfl⟩ := List.mem_map.1 he
  have : (j : Int) = i := h2.1
  omega
theorem CnP.step {a : Aut} {ord : List Int} (h : CnP a ord) {j : Nat} (hj : j < ord.length) (v : Int) : eget (canA a).ed j v = (eget a.ed (getI ord j) v).map fun u => (ord.idxOf u : Int) := by
  rw [h.ed]
  have key : ∀ n, j < n → eget ((List.range' 0 n).flatMap (cnR a ord)) j v = eget (cnR a ord j) j v := by
    intro n
    induction n with
    | zero => intro h; omega
    | succ n ih =>
      intro hn
      rw [List.range'_1_concat, List.flatMap_append, Nat.zero_add, eget_append]
      simp only [List.flatMap_cons, List.flatMap_nil, List.append_nil]
      by_cases e : j = n
      · subst e
        have : eget ((List.range' 0 j).flatMap (cnR a ord)) j v = none := eget_none fun d hd h2 => by
          obtain ⟨k, hk, hd2⟩ := List.mem_flatMap.1 hd
          rw [List.mem_range'_1] at hk
          unfold cnR at hd2
          obtain ⟨d', _, rfl⟩ := List.mem_map.1 hd2
          have : (k : Int) = j := h2.1
          omega
        rw [this]
      · rw [ih (by omega), eget_cnRne (Ne.symm e)]
        cases eget (cnR a ord j) j v <;> rfl
  rw [key _ hj]
  exact eget_cnR v
section
variable {p s : Aut} {pn xn v : Int}
theorem step_n1 (hv : v ∈ p.al) (h : eget p.ed pn v = none) : stepT v [p, s] [pn, xn] = none := by rw [stepT, if_neg (fun e => e hv), h]
theorem step_n2 (hv : v ∈ p.al) {p' : Int} (h : eget p.ed pn v = some p') (hs : v ∈ s.al) (h2 : eget s.ed xn v = none) : stepT v [p, s] [pn, xn] = none := by
  rw [stepT, if_neg (fun e => e hv), h]; simp only []; rw [stepT, if_neg (fun e => e hs), h2]; rfl
theorem step_s2 (hv : v ∈ p.al) {p' x' : Int} (h : eget p.ed pn v = some p') (hs : v ∈ s.al) (h2 : eget s.ed xn v = some x') : stepT v [p, s] [pn, xn] = some [p', x'] := by
  rw [stepT, if_neg (fun e => e hv), h]; simp only []; rw [stepT, if_neg (fun e => e hs), h2]; rfl
theorem step_s1 (hv : v ∈ p.al) {p' : Int} (h : eget p.ed pn v = some p') (hs : v ∉ s.al) : stepT v [p, s] [pn, xn] = some [p', xn] := by
  rw [stepT, if_neg (fun e => e hv), h]; simp only []; rw [stepT, if_pos hs]; rfl
end
/-- The canonical form of a supervisor does the same. -/
theorem bis_can {p q : Aut} (hq : Okay q) (h0 : 0 < q.st) : ∃ R, Bis p q (canA q) R ∧ (canA q).al = q.al ∧ (canA q).st ≤ q.st ∧ 0 < (canA q).st := by
  obtain ⟨ord, h⟩ := canA_spec hq h0
  refine ⟨fun _ k c => ∃ j : Nat, c = j ∧ j < ord.length ∧ getI ord j = k, ⟨⟨0, rfl, h.hd.2, h.hd.1⟩, ?_, ?_⟩, h.al, ?_, ?_⟩
  · rintro pn k c ⟨j, rfl, hj, hk⟩ v hv
    have hs := h.step hj v
    rw [hk] at hs
    cases hep : eget p.ed pn v with
    | none => exact .inl ⟨step_n1 hv hep, step_n1 hv hep⟩
    | some p' =>
      by_cases hvq : v ∈ q.al
      · have hvc : v ∈ (canA q).al := by rw [h.al]; exact hvq
        cases heq : eget q.ed k v with
        | none =>
          rw [heq] at hs
          exact .inl ⟨step_n2 hv hep hvq heq, step_n2 hv hep hvc hs⟩
        | some u =>
          rw [heq] at hs
          right
          have hm : u ∈ ord := h.cl j hj (k, v, u) (by rw [hk]; unfold outE; exact List.mem_filter.2 ⟨eget_mem heq, by simp⟩)
          refine ⟨p', u, (ord.idxOf u : Int), step_s2 hv hep hvq heq, step_s2 hv hep hvc hs, ord.idxOf u, rfl, List.idxOf_lt_length_of_mem hm, ?_⟩
          unfold getI
          rw [Int.toNat_natCast]
          simp [List.getD, List.idxOf_lt_length_of_mem hm]
      · have hvc : v ∉ (canA q).al := by rw [h.al]; exact hvq
        exact .inr ⟨p', k, j, step_s1 hv hep hvq, step_s1 hv hep hvc, j, rfl, hj, hk⟩
  · rintro pn k c ⟨j, rfl, hj, hk⟩
    have e1 : markT [p, q] [pn, k] = (decide (pn ∈ p.mr) && (decide (k ∈ q.mr) && true)) := rfl
    have e2 : markT [p, canA q] [pn, (j : Int)] = (decide (pn ∈ p.mr) && (decide ((j : Int) ∈ (canA q).mr) && true)) := rfl
    have e3 : decide ((j : Int) ∈ (canA q).mr) = decide (k ∈ q.mr) := by
      rw [h.mk2, decide_eq_decide]
      simp only [List.mem_map, List.mem_filter, List.mem_range'_1, decide_eq_true_eq]
      constructor
      · rintro ⟨i, ⟨_, h2⟩, h3⟩
        have : i = j := by omega
        subst this; rw [hk] at h2; exact h2
      · intro h2; exact ⟨j, ⟨by omega, by rw [hk]; exact h2⟩, rfl⟩
    rw [e1, e2, e3]
  · rw [h.st]
    have := pig q.st.toNat ord h.nd (fun x hx => by have := h.bd x hx; omega)
    omega
  · rw [h.st]; have := h.hd.2; omega
end Go.Proofs.YtfhgnlkdcdlblaaDoor
/- SupervisorKeeps, plain law: the reduced supervisor does the same. -/
namespace Go.Proofs.YtfhgnlkdcdlblaaDoor
open Go.Lg

/-! ### The classes at the end are closed and consistent -/
section
variable {s : Aut} {l : List Ctl} {n : Nat}
theorem clsA_closed (hi : IncA l n) (hn : Nx s l n) {c d : List Int} (h : TrI s l n c d) (hc : Clsd s l n c) (hk : consAll l c = true) : Clsd s l n (clsA s l c) ∧ consAll l (clsA s l c) = true := by
  have key : TrI s l n (clsA s l c) (lwA s l d) ∧ Clsd s l n (clsA s l c) ∧ consAll l (clsA s l c) = true := by
    unfold clsA lwA
    rw [h.lc, h.ld]
    refine fold_two (P := fun x => x < n) (I := fun c d => TrI s l n c d ∧ Clsd s l n c ∧ consAll l c = true) (fun c d x hx hI => ?_) _ c d (fun x hx => by rw [List.mem_range'_1] at hx; omega) ⟨h, hc, hk⟩
    unfold tryX lwTX
    refine fold_two (f := fun c y => tryC s l c x y) (g := fun d y => lwTry s l d x y) (P := fun y => y < n) (I := fun c d => TrI s l n c d ∧ Clsd s l n c ∧ consAll l c = true) (fun c d y hy hI => ⟨try_same hi hn hI.1 hx hy, ?_⟩) (List.range' (x + 1) (n - (x + 1))) c d (fun y hy => by rw [List.mem_range'_1] at hy; omega) hI
    unfold tryC
    split
    · exact hI.2
    · rename_i h1
      have hc0 : 0 ≤ cget c x := by omega
      have hc1 : 0 ≤ cget c y := by omega
      have K1 := closeC_spec (s := s) (fun x hx => (hi x hx).1) (c.length * c.length + 1) (mergeC c x y) (by rw [mergeC_len]; exact hI.1.lc) (hI.1.oc.of fun q hq => merge_sign hI.1.lc hc0 hc1 hq) (by have := uneq_le (mergeC c x y); rw [mergeC_len] at this; omega)
      simp only []
      split
      · rename_i h2; exact ⟨K1.cl, h2⟩
      · exact hI.2
  exact key.2
end
theorem lw0_closed {s : Aut} {l : List Ctl} {n : Nat} {pairs : List (List Int)} : Clsd s l n (lw0 n pairs) ∧ consAll l (lw0 n pairs) = true := by
  have inj : ∀ x y, x < n → y < n → 0 ≤ cget (lw0 n pairs) x → cget (lw0 n pairs) x = cget (lw0 n pairs) y → x = y := fun x y hx hy h0 he => by
    rw [cget_lw0 hx] at h0 he
    rw [cget_lw0 hy] at he
    split at h0
    · rename_i h1
      rw [if_pos h1] at he
      split at he <;> omega
    · omega
  refine ⟨?_, ?_⟩
  · rintro u t ⟨x, y, e, h1, h2, h3, h4, _, _, rfl, rfl⟩
    rw [inj x y h1 h2 h3 h4]
  · unfold consAll
    rw [lw0_len']
    rw [List.all_eq_true]
    intro x hx
    rw [List.all_eq_true]
    intro y hy
    rw [List.mem_range'_1] at hx hy
    have : ¬ (0 ≤ cget (lw0 n pairs) x ∧ cget (lw0 n pairs) x = cget (lw0 n pairs) y) := fun h => by
      have := inj x y (by omega) (by omega) h.1 h.2; omega
    rw [decide_eq_false this]; rfl
where
  lw0_len' {n : Nat} {pairs : List (List Int)} : (lw0 n pairs).length = n := by simp [lw0]
theorem consAll_spec {l : List Ctl} {c : List Int} {n : Nat} (hl : c.length = n) (hi : IncA l n) (h : consAll l c = true) {x y : Nat} (hx : x < n) (hy : y < n) (hne : x ≠ y) (h0 : 0 ≤ cget c x) (he : cget c x = cget c y) : lawC (lget l x) (lget l y) = true := by
  have key : ∀ a b, a < n → b < a → 0 ≤ cget c a → cget c a = cget c b → lawC (lget l a) (lget l b) = true := fun a b ha hb h0 he => by
    unfold consAll at h
    rw [hl, List.all_eq_true] at h
    have h1 := h a (by rw [List.mem_range'_1]; omega)
    rw [List.all_eq_true] at h1
    have h2 := h1 b (by rw [List.mem_range'_1]; omega)
    rw [decide_eq_true ⟨h0, he⟩] at h2
    rw [← consC_law (hi a ha).1 (hi a ha).2 (hi b (by omega)).1 (hi b (by omega)).2]
    simpa using h2
  rcases Nat.lt_or_ge y x with h1 | h1
  · exact key x y hx h1 h0 he
  · have := key y x hy (by omega) (by omega) he.symm
    rw [lawC_symm] at this; exact this
theorem lwN_zero {d : List Int} (h : cget d 0 = 0) : ∀ k, cget ((List.range' 0 (k + 1)).foldl (lwN d) ([], 0)).1 0 = 0 ∧ ((List.range' 0 (k + 1)).foldl (lwN d) ([], 0)).1.length = k + 1
  | 0 => by
    have e : (List.range' 0 (0 + 1)).foldl (lwN d) ([], 0) = ([0], 1) := by
      show lwN d ([], 0) 0 = ([0], 1)
      unfold lwN
      rw [if_neg (by omega), if_pos (show cget d 0 = ((0 : Nat) : Int) from h)]; rfl
    rw [e]; exact ⟨rfl, rfl⟩
  | k + 1 => by
    obtain ⟨h1, h2⟩ := lwN_zero h k
    rw [List.range'_1_concat, List.foldl_append, Nat.zero_add]
    simp only [List.foldl_cons, List.foldl_nil]
    generalize (List.range' 0 (k + 1)).foldl (lwN d) ([], 0) = z at h1 h2
    unfold lwN
    split
    · exact ⟨by simp only []; rw [cget_snoc_lt (by omega)]; exact h1, by simp [h2]⟩
    · split
      · exact ⟨by simp only []; rw [cget_snoc_lt (by omega)]; exact h1, by simp [h2]⟩
      · exact ⟨by simp only []; rw [cget_snoc_lt (by omega)]; exact h1, by simp [h2]⟩
/-! ### The reduced supervisor -/
theorem lwTo_in {s : Aut} {l : List Ctl} {nm : List Int} {c : Nat} {e t : Int} (ht : ∀ x : Nat, cget nm x = (c : Int) → e ∈ (lget l x).en → cget nm (nxt s.ed x e).toNat = t) : ∀ k, (lwTo s l nm k c e = -1 ∧ ∀ x, x < k → cget nm x = (c : Int) → e ∉ (lget l x).en) ∨ lwTo s l nm k c e = t
  | 0 => .inl ⟨rfl, fun x hx => by omega⟩
  | k + 1 => by
    rw [lwTo_succ]
    unfold lwTo1
    by_cases hc : cget nm k = (c : Int) ∧ e ∈ (lget l k).en
    · rw [if_pos hc]; exact .inr (ht k hc.1 hc.2)
    · rw [if_neg hc]
      rcases lwTo_in ht k with ⟨h1, h2⟩ | h1
      · refine .inl ⟨h1, fun x hx hxc hxe => ?_⟩
        by_cases ex : x = k
        · subst ex; exact hc ⟨hxc, hxe⟩
        · exact h2 x (by omega) hxc hxe
      · exact .inr h1
theorem lwTo_none {s : Aut} {l : List Ctl} {nm : List Int} {c : Nat} {e : Int} : ∀ k, (∀ x, x < k → cget nm x = (c : Int) → e ∉ (lget l x).en) → lwTo s l nm k c e = -1
  | 0, _ => rfl
  | k + 1, h => by
    rw [lwTo_succ]
    unfold lwTo1
    rw [if_neg (fun hc => h k (by omega) hc.1 hc.2)]
    exact lwTo_none k (fun x hx => h x (by omega))
theorem lwTo_some {s : Aut} {l : List Ctl} {nm : List Int} {c : Nat} {e t : Int} (ht : ∀ x : Nat, cget nm x = (c : Int) → e ∈ (lget l x).en → cget nm (nxt s.ed x e).toNat = t) {k x : Nat} (hx : x < k) (hxc : cget nm x = (c : Int)) (hxe : e ∈ (lget l x).en) : lwTo s l nm k c e = t := by
  rcases lwTo_in ht k with ⟨_, h2⟩ | h1
  · exact absurd hxe (h2 x hx hxc)
  · exact h1
theorem bis_red {p s : Aut} (h0 : opE p s = 0) (hsub : ∀ x ∈ s.al, x ∈ p.al) (hQ : 0 < (opQ p s).length) : ∃ R, Bis p s (lwRed p s) R ∧ 0 < (lwRed p s).st := by
  obtain ⟨hp, hs, _, hv, hl⟩ := opE_zero h0
  obtain ⟨hSy, hOA, hQz⟩ := opE_syP h0
  have hR := red_law h0
  have hiA := ctls_incA hp hs hv
  have hnx := ctls_nx hp hs hv
  have hcd := ctls_def hp hs hv
  have T0 := lw0_tri hp hs hSy
  have T := hR.tr
  obtain ⟨hclsd, hcons⟩ := clsA_closed hiA hnx T0 (lw0_closed (s := s) (l := ctls p s (opQ p s))).1 (lw0_closed (s := s)).2
  have hnk := hR.nk
  have hst0 := hs.st0
  have hsne : ¬ s.st = 0 := fun e => by have := hQz.2 (.inr e); omega
  have ea := evs_two hp hs hsub
  generalize hlE : ctls p s (opQ p s) = l at *
  generalize hNE : s.st.toNat = N at *
  generalize hc1E : clsA s l (lw0 N (opQ p s)) = c1 at *
  have hN0 : Ng c1 := by
    have hN00 : Ng (lw0 N (opQ p s)) := fun x hx => by
      rcases Nat.lt_or_ge x N with hlt | hge
      · rw [cget_lw0 hlt] at hx ⊢
        split at hx
        · omega
        · rename_i e; rw [if_neg e]
      · have : cget (lw0 N (opQ p s)) x = 0 := cget_ge (by simp [lw0]; omega)
        omega
    rw [← hc1E]; exact clsA_ng hiA hnx T0 hN00
  have NR := num_all T.lc T.ld T.sm T.ls (fun x _ h => hN0 x h)
  have I := num_same T.lc T.ld T.sm T.ls (fun x _ h => hN0 x h) N (Nat.le_refl _)
  rw [List.take_of_length_le (by have := T.lc; omega)] at I
  have hnm : nums c1 = (lwNums (lwCls p s)).1 := NR.eq
  have hinn : ∀ y, y < N → cget c1 y ∈ (c1.foldl numS ([-1], [])).1 ∧ cget (nums c1) y = ((c1.foldl numS ([-1], [])).1.idxOf (cget c1 y) : Int) - 1 := I.inn
  have same : ∀ x y, x < N → y < N → (cget (nums c1) x = cget (nums c1) y ↔ cget c1 x = cget c1 y) := fun x y hx hy => by
    obtain ⟨a1, a2⟩ := hinn x hx
    obtain ⟨b1, b2⟩ := hinn y hy
    constructor
    · intro h
      have e : (c1.foldl numS ([-1], [])).1.idxOf (cget c1 x) = (c1.foldl numS ([-1], [])).1.idxOf (cget c1 y) := by omega
      have g1 := List.getElem_idxOf (List.idxOf_lt_length_of_mem a1)
      have g2 := List.getElem_idxOf (List.idxOf_lt_length_of_mem b1)
      simp only [e] at g1
      rw [g1] at g2; exact g2
    · intro h; rw [a2, b2, h]
  -- states that occur
  have hocc : ∀ x, x < N → occB (opQ p s) x = true → 0 ≤ cget (nums c1) x := fun x hx ho => by
    have h1 := NR.lo x hx
    have h2 : cget c1 x < 0 ↔ cget (lw0 N (opQ p s)) x < 0 := by
      have hN00 := T0
      have key : TrI s l N c1 (lwCls p s) := T
      -- the sign goes with the law's classes, and those with the first
      have := sign_kept hiA hnx T0 x hx
      rw [hc1E] at this; exact this
    rw [cget_lw0 hx, if_pos ho] at h2
    omega
  have hred : lwRed p s = lwAut s l (nums c1) N (lwNums (lwCls p s)).2 := by unfold lwRed; rw [hlE, hNE, ← hnm]
  rw [← hnm] at hnk
  have hmem : ∀ pn xn : Int, [pn, xn] ∈ opQ p s → ∃ x : Nat, xn = x ∧ x < N ∧ occB (opQ p s) x = true := fun pn xn hm => by
    obtain ⟨a, b, e, ha, hb⟩ := Vt2 (hv _ hm)
    simp only [List.cons.injEq, and_true] at e
    refine ⟨b, e.2, by omega, ?_⟩
    unfold occB
    rw [List.any_eq_true]
    exact ⟨_, hm, by rw [e.2]; simp [py]⟩
  have hgetj : ∀ t, t ∈ opQ p s → ∃ j, j < (opQ p s).length ∧ (opQ p s).getD j [] = t := fun t ht => by
    obtain ⟨j, hj, e⟩ := List.getElem_of_mem ht
    exact ⟨j, hj, by rw [← e]; simp [List.getD, hj]⟩
  have hclo : ∀ (pn xn v : Int) (t : List Int), [pn, xn] ∈ opQ p s → v ∈ p.al → stepT v [p, s] [pn, xn] = some t → t ∈ opQ p s := fun pn xn v t hm hv' hst => by
    obtain ⟨j, hj, e⟩ := hgetj _ hm
    exact hSy.cl j hj v (by rw [ea]; exact hv') t (by rw [e]; exact hst)
  have hen : ∀ (pn : Int) (x : Nat) (v : Int), x < N → [pn, (x : Int)] ∈ opQ p s → v ∈ s.al → (eget p.ed pn v).isSome = true → (v ∈ (lget l x).en ↔ 0 ≤ nxt s.ed x v) ∧ (v ∈ (lget l x).dis ↔ ¬ 0 ≤ nxt s.ed x v) := fun pn x v hx hm hvs hep => by
    have hcan : canX p (opQ p s) x v = true := by
      unfold canX
      rw [List.any_eq_true]
      refine ⟨_, hm, ?_⟩
      have e1 : py [pn, (x : Int)] = (x : Int) := rfl
      have e2 : px [pn, (x : Int)] = pn := rfl
      rw [e1, e2, decide_eq_true rfl, Bool.true_and]
      exact decide_eq_true ((nxt_nonneg hp pn v).2 hep)
    rw [hcd x hx]
    simp only [ctlD, List.mem_filter, hcan, Bool.true_and, decide_eq_true_eq, Bool.not_eq_true', decide_eq_false_iff_not]
    exact ⟨⟨fun h => h.2, fun h => ⟨hvs, h⟩⟩, ⟨fun h => h.2, fun h => ⟨hvs, h⟩⟩⟩
  refine ⟨fun pn xn k => [pn, xn] ∈ opQ p s ∧ ∃ x : Nat, xn = x ∧ x < N ∧ k = cget (nums c1) x, ⟨⟨?_, 0, rfl, by omega, ?_⟩, ?_, ?_⟩, ?_⟩
  · have := hSy.hd hQ
    have e : (opQ p s).getD 0 [] ∈ opQ p s := by simp [List.getD, hQ]
    rw [this] at e; exact e
  · have e : [(0 : Int), 0] ∈ opQ p s := by
      have := hSy.hd hQ
      have e : (opQ p s).getD 0 [] ∈ opQ p s := by simp [List.getD, hQ]
      rw [this] at e; exact e
    obtain ⟨x, hx0, hxN, ho⟩ := hmem 0 0 e
    have hx00 : x = 0 := by omega
    subst hx00
    have h1 := hocc 0 hxN ho
    have hd0 : cget (lwCls p s) 0 = 0 := by
      have h2 := NR.lo 0 hxN
      have h3 := T.sm.sg 0 hxN
      have := (T.ls 0 hxN (by omega)).1
      omega
    obtain ⟨N', hN'⟩ : ∃ N', N = N' + 1 := ⟨N - 1, by omega⟩
    have := (lwN_zero hd0 N').1
    rw [hnm]
    unfold lwNums
    rw [show (lwCls p s).length = N from T.ld, hN']
    exact this.symm
  · rintro pn xn k ⟨hm, x, rfl, hx, rfl⟩ v hv'
    have hoc : 0 ≤ cget (nums c1) x := by
      obtain ⟨x', e, hx', ho⟩ := hmem pn x hm
      have : x' = x := by omega
      subst this; exact hocc x' hx ho
    obtain ⟨kk, hkk⟩ : ∃ kk : Nat, cget (nums c1) x = kk := ⟨(cget (nums c1) x).toNat, by omega⟩
    cases hep : eget p.ed pn v with
    | none => exact .inl ⟨step_n1 hv' hep, step_n1 hv' hep⟩
    | some p' =>
      by_cases hvs : v ∈ s.al
      · have hvr : v ∈ (lwRed p s).al := hvs
        obtain ⟨he1, he2⟩ := hen pn x v hx hm hvs (by rw [hep]; rfl)
        have hkm : kk < (lwNums (lwCls p s)).2 := by have := NR.hi x hx; omega
        have hge : eget (lwRed p s).ed (cget (nums c1) x) v = (lwG s l (nums c1) N kk v).map (·.2.2) := by
          rw [hred, hkk]
          show eget (grid (lwG s l (nums c1) N) s.al _) kk v = _
          rw [eget_grid (lwG_ok s l (nums c1) N), if_pos ⟨hkm, hvs⟩]
        cases hes : eget s.ed x v with
        | some x' =>
          have hn0 : 0 ≤ nxt s.ed x v := (nxt_nonneg hs x v).2 (by rw [hes]; rfl)
          have hnx' : nxt s.ed x v = x' := by rw [nxt_eget, hes]
          have hven := he1.2 hn0
          have hto : ∀ y : Nat, cget (nums c1) y = (kk : Int) → v ∈ (lget l y).en → cget (nums c1) (nxt s.ed y v).toNat = cget (nums c1) (nxt s.ed x v).toNat := fun y hyk hye => by
            by_cases hyN : y < N
            · have hcl : cget c1 x = cget c1 y := (same x y hx hyN).1 (by rw [hkk, hyk])
              have hx0 : 0 ≤ cget c1 x := by have := NR.lo x hx; omega
              have := hclsd _ _ ⟨x, y, v, hx, hyN, hx0, hcl, hven, hye, rfl, rfl⟩
              obtain ⟨n1, _⟩ := hnx x hx v hven
              obtain ⟨n2, _⟩ := hnx y hyN v hye
              have t1 := hnk.to x hx (by omega) v hven
              have t2 := hnk.to y hyN (by omega) v hye
              rw [n1, n2]
              exact ((same _ _ t1.1 t2.1).2 this).symm
            · exfalso
              have : lget l y = ctl0 := by unfold lget; rw [← hlE]; rw [List.getD_eq_getElem?_getD, List.getElem?_eq_none (by rw [ctls_len]; omega)]; rfl
              rw [this] at hye; simp [ctl0] at hye
          have t1 := hnk.to x hx (by omega) v hven
          have n1 := (hnx x hx v hven).1
          have hpos : 0 ≤ cget (nums c1) (nxt s.ed x v).toNat := by rw [n1]; exact t1.2
          have hTo := lwTo_some (k := N) hto hx hkk hven
          have hG : lwG s l (nums c1) N kk v = some ((kk : Int), v, cget (nums c1) (nxt s.ed x v).toNat) := by unfold lwG; rw [hTo, if_pos hpos]
          rw [hG] at hge
          have hst := step_s2 (s := s) (xn := (x : Int)) hv' hep hvs hes
          refine .inr ⟨p', x', cget (nums c1) (nxt s.ed x v).toNat, hst, step_s2 hv' hep hvr hge, hclo pn x v _ hm hv' hst, x'.toNat, ?_, ?_, ?_⟩
          · rw [hnx'] at hn0; omega
          · have := t1.1; rw [← n1, hnx'] at this; exact this
          · rw [hnx']
        | none =>
          have hn0 : ¬ 0 ≤ nxt s.ed x v := fun h => by have := (nxt_nonneg hs x v).1 h; rw [hes] at this; cases this
          have hdis := he2.2 hn0
          have hno : ∀ y, y < N → cget (nums c1) y = (kk : Int) → v ∉ (lget l y).en := fun y hyN hyk hye => by
            by_cases exy : x = y
            · subst exy; exact hn0 (he1.1 hye)
            · have hcl : cget c1 x = cget c1 y := (same x y hx hyN).1 (by rw [hkk, hyk])
              have hx0 : 0 ≤ cget c1 x := by have := NR.lo x hx; omega
              have hlaw := consAll_spec T.lc hiA hcons hx hyN exy hx0 hcl
              unfold lawC at hlaw
              simp only [Bool.and_eq_true, List.all_eq_true, Bool.not_eq_true', decide_eq_false_iff_not] at hlaw
              exact hlaw.1.2 v hye hdis
          have hTo := lwTo_none (s := s) N hno
          have hG : lwG s l (nums c1) N kk v = none := by unfold lwG; rw [hTo]; rfl
          rw [hG] at hge
          exact .inl ⟨step_n2 hv' hep hvs hes, step_n2 hv' hep hvr hge⟩
      · have hvr : v ∉ (lwRed p s).al := hvs
        have hst := step_s1 (s := s) (xn := (x : Int)) hv' hep hvs
        exact .inr ⟨p', x, cget (nums c1) x, hst, step_s1 hv' hep hvr, hclo pn x v _ hm hv' hst, x, rfl, hx, rfl⟩
  · rintro pn xn k ⟨hm, x, rfl, hx, rfl⟩
    have hoc : 0 ≤ cget (nums c1) x := by
      obtain ⟨x', e, hx', ho⟩ := hmem pn x hm
      have : x' = x := by omega
      subst this; exact hocc x' hx ho
    obtain ⟨kk, hkk⟩ : ∃ kk : Nat, cget (nums c1) x = kk := ⟨(cget (nums c1) x).toNat, by omega⟩
    have e1 : markT [p, s] [pn, (x : Int)] = (decide (pn ∈ p.mr) && (decide ((x : Int) ∈ s.mr) && true)) := rfl
    have e2 : markT [p, lwRed p s] [pn, cget (nums c1) x] = (decide (pn ∈ p.mr) && (decide (cget (nums c1) x ∈ (lwRed p s).mr) && true)) := rfl
    rw [e1, e2]
    by_cases hpm : pn ∈ p.mr
    · rw [decide_eq_true hpm, Bool.true_and, Bool.true_and, Bool.and_true, Bool.and_true]
      have hany : (opQ p s).any (fun q => decide (py q = (x : Int))) = true := by rw [List.any_eq_true]; exact ⟨_, hm, by simp [py]⟩
      have hps : (lget l x).ps = true := by
        rw [hcd x hx]
        show ((opQ p s).any fun q => decide (py q = (x : Int)) && decide (px q ∈ p.mr)) = true
        rw [List.any_eq_true]
        exact ⟨_, hm, by simp [py, px, hpm]⟩
      have hmk : (lget l x).mk' = decide ((x : Int) ∈ s.mr) := by
        rw [hcd x hx]
        show (((opQ p s).any fun q => decide (py q = (x : Int))) && decide ((x : Int) ∈ s.mr)) = _
        rw [hany, Bool.true_and]
      have hkm : kk < (lwNums (lwCls p s)).2 := by have := NR.hi x hx; omega
      have hmr : decide (cget (nums c1) x ∈ (lwRed p s).mr) = lwMk l (nums c1) N kk := by
        rw [hred, hkk]
        show decide ((kk : Int) ∈ ((List.range' 0 (lwNums (lwCls p s)).2).filter (lwMk l (nums c1) N)).map fun c : Nat => (c : Int)) = _
        rw [Bool.eq_iff_iff]
        simp only [decide_eq_true_eq, List.mem_map, List.mem_filter, List.mem_range'_1]
        constructor
        · rintro ⟨i, ⟨_, h2⟩, h3⟩
          have : i = kk := by omega
          subst this; exact h2
        · intro h2; exact ⟨kk, ⟨by omega, h2⟩, rfl⟩
      rw [hmr, ← hmk]
      cases hmx : (lget l x).mk' with
      | true =>
        symm
        unfold lwMk
        rw [List.any_eq_true]
        refine ⟨x, by rw [List.mem_range'_1]; omega, ?_⟩
        unfold lwMk1
        rw [decide_eq_true hkk, hmx, hps]; rfl
      | false =>
        symm
        cases hq : lwMk l (nums c1) N kk with
        | false => rfl
        | true =>
          exfalso
          unfold lwMk at hq
          rw [List.any_eq_true] at hq
          obtain ⟨y, hy, hy1⟩ := hq
          rw [List.mem_range'_1] at hy
          unfold lwMk1 at hy1
          simp only [Bool.and_eq_true, decide_eq_true_eq] at hy1
          have hyN : y < N := by omega
          by_cases exy : x = y
          · subst exy; rw [hmx] at hy1; exact absurd hy1.1.2 (by simp)
          · have hcl : cget c1 x = cget c1 y := (same x y hx hyN).1 (by rw [hkk, hy1.1.1])
            have hx0 : 0 ≤ cget c1 x := by have := NR.lo x hx; omega
            have hlaw := consAll_spec T.lc hiA hcons hx hyN exy hx0 hcl
            unfold lawC at hlaw
            rw [hps, hy1.2, hmx, hy1.1.2] at hlaw
            simp at hlaw
    · rw [decide_eq_false hpm, Bool.false_and, Bool.false_and]
  · have e : [(0 : Int), 0] ∈ opQ p s := by
      have := hSy.hd hQ
      have e : (opQ p s).getD 0 [] ∈ opQ p s := by simp [List.getD, hQ]
      rw [this] at e; exact e
    obtain ⟨x, hx0, hxN, ho⟩ := hmem 0 0 e
    have h1 := hocc x hxN ho
    have h2 := NR.hi x hxN
    rw [hred]
    show (0 : Int) < ((lwNums (lwCls p s)).2 : Int)
    omega
where
  sign_kept {s : Aut} {l : List Ctl} {n : Nat} {c d : List Int} (hi : IncA l n) (hn : Nx s l n) (h : TrI s l n c d) : ∀ x, x < n → (cget (clsA s l c) x < 0 ↔ cget c x < 0) := by
    have key : TrI s l n (clsA s l c) (lwA s l d) ∧ ∀ x, x < n → (cget (clsA s l c) x < 0 ↔ cget c x < 0) := by
      generalize hc0 : c = c0
      have hb : ∀ x, x < n → (cget c x < 0 ↔ cget c0 x < 0) := fun x _ => by rw [hc0]
      rw [← hc0]
      have hb' : TrI s l n c d ∧ ∀ x, x < n → (cget c x < 0 ↔ cget c0 x < 0) := ⟨h, hb⟩
      have goal : TrI s l n (clsA s l c) (lwA s l d) ∧ ∀ x, x < n → (cget (clsA s l c) x < 0 ↔ cget c0 x < 0) := by
        unfold clsA lwA
        rw [h.lc, h.ld]
        refine fold_two (P := fun x => x < n) (I := fun c d => TrI s l n c d ∧ ∀ x, x < n → (cget c x < 0 ↔ cget c0 x < 0)) (fun c d x hx hI => ?_) _ c d (fun x hx => by rw [List.mem_range'_1] at hx; omega) hb'
        unfold tryX lwTX
        refine fold_two (f := fun c y => tryC s l c x y) (g := fun d y => lwTry s l d x y) (P := fun y => y < n) (I := fun c d => TrI s l n c d ∧ ∀ x, x < n → (cget c x < 0 ↔ cget c0 x < 0)) (fun c d y hy hI => ⟨try_same hi hn hI.1 hx hy, fun q hq => ?_⟩) (List.range' (x + 1) (n - (x + 1))) c d (fun y hy => by rw [List.mem_range'_1] at hy; omega) hI
        rw [← hI.2 q hq]
        unfold tryC
        split
        · exact Iff.rfl
        · rename_i h1
          have hc0 : 0 ≤ cget c x := by omega
          have hc1 : 0 ≤ cget c y := by omega
          have K1 := closeC_spec (s := s) (fun x hx => (hi x hx).1) (c.length * c.length + 1) (mergeC c x y) (by rw [mergeC_len]; exact hI.1.lc) (hI.1.oc.of fun q hq => merge_sign hI.1.lc hc0 hc1 hq) (by have := uneq_le (mergeC c x y); rw [mergeC_len] at this; omega)
          simp only []
          split
          · rw [K1.sg q hq, merge_sign hI.1.lc hc0 hc1 hq]
          · exact Iff.rfl
      refine ⟨goal.1, fun x hx => ?_⟩
      rw [goal.2 x hx, hc0]
    exact key.2
end Go.Proofs.YtfhgnlkdcdlblaaDoor
/- SupervisorKeeps, plain law: all together. -/
namespace Go.Proofs.YtfhgnlkdcdlblaaDoor
open Go.Lg

theorem canA_okay {a : Aut} (ho : Okay a) : Okay (canA a) := by
  have h0 := ho.st0
  have h1 := ho.st1
  by_cases hz : a.st = 0
  · unfold canA
    rw [if_pos hz]
    exact ⟨ho.al, ho.ali, by simp, by simp, by simp, by simp, by simp, by simp⟩
  · obtain ⟨ord, h⟩ := canA_spec ho (by omega)
    have hl : ord.length ≤ a.st.toNat := pig _ _ h.nd (fun x hx => by have := h.bd x hx; omega)
    refine ⟨by rw [h.al]; exact ho.al, by rw [h.al]; exact ho.ali, by rw [h.st]; omega, by rw [h.st]; omega, fun s hs => ?_, ?_, fun e he => ?_, ?_⟩
    · rw [h.mk2] at hs
      simp only [List.mem_map, List.mem_filter, List.mem_range'_1] at hs
      obtain ⟨i, ⟨hi, _⟩, rfl⟩ := hs
      rw [h.st]; omega
    · rw [h.mk2]
      unfold Inc
      rw [List.pairwise_map]
      refine List.Pairwise.sublist List.filter_sublist ?_
      exact (List.pairwise_lt_range' (s := 0) (n := ord.length)).imp (fun h => by omega)
    · rw [h.ed] at he
      obtain ⟨j, hj, hd⟩ := List.mem_flatMap.1 he
      rw [List.mem_range'_1] at hj
      unfold cnR at hd
      obtain ⟨d, hd2, rfl⟩ := List.mem_map.1 hd
      have hm := h.cl j (by omega) d hd2
      have := List.idxOf_lt_length_of_mem hm
      have hda := (ho.ed d (outE_mem hd2).1).2.2.1
      rw [h.st, h.al]
      unfold cnF
      exact ⟨by simp only []; omega, by simp only []; omega, hda, by simp only []; omega, by simp only []; omega⟩
    · rw [h.ed]
      have key : ∀ n, ((List.range' 0 n).flatMap (cnR a ord)).Pairwise fun x y : Ed => x.1 < y.1 ∨ (x.1 = y.1 ∧ x.2.1 < y.2.1) := by
        intro n
        induction n with
        | zero => simp
        | succ n ih =>
          rw [List.range'_1_concat, List.flatMap_append, Nat.zero_add, List.pairwise_append]
          refine ⟨ih, ?_, fun x hx y hy => ?_⟩
          · simp only [List.flatMap_cons, List.flatMap_nil, List.append_nil]
            unfold cnR
            rw [List.pairwise_map]
            have h2 : (outE a.ed (getI ord n)).Pairwise fun x y : Ed => x.1 < y.1 ∨ (x.1 = y.1 ∧ x.2.1 < y.2.1) := List.Pairwise.sublist List.filter_sublist ho.edi
            refine List.Pairwise.imp_of_mem (fun {x y} hx hy hxy => ?_) h2
            have e1 := (outE_mem hx).2
            have e2 := (outE_mem hy).2
            right
            exact ⟨rfl, by show x.2.1 < y.2.1; omega⟩
          · obtain ⟨j, hj, hx2⟩ := List.mem_flatMap.1 hx
            rw [List.mem_range'_1] at hj
            simp only [List.flatMap_cons, List.flatMap_nil, List.append_nil] at hy
            unfold cnR at hx2 hy
            obtain ⟨d, _, rfl⟩ := List.mem_map.1 hx2
            obtain ⟨d', _, rfl⟩ := List.mem_map.1 hy
            left
            show (j : Int) < (n : Int)
            omega
      exact key _
/-! ### The product of two small automata is found -/
theorem tup_le {p s : Aut} (hp : Okay p) (hs : Okay s) {z : Sy} (hz : SyOk [p, s] z) (hd : z.tup.Nodup) : z.tup.length ≤ p.st.toNat * s.st.toNat := by
  have p0 := hp.st0
  have s0 := hs.st0
  have h1 : (z.tup.map fun t => px t * s.st + py t).Nodup := by
    unfold List.Nodup
    rw [List.pairwise_map]
    refine List.Pairwise.imp_of_mem (fun {a b} ha hb hne e => hne ?_) hd
    obtain ⟨x1, y1, rfl, p1, q1⟩ := Vt2 (hz.v a ha)
    obtain ⟨x2, y2, rfl, p2, q2⟩ := Vt2 (hz.v b hb)
    have e' : (x1 : Int) * s.st + y1 = x2 * s.st + y2 := e
    have m1 : ((x1 : Int) * s.st + y1) % s.st = y1 := by rw [Int.mul_comm, Int.mul_add_emod_self_left]; exact Int.emod_eq_of_lt (by omega) q1
    have m2 : ((x2 : Int) * s.st + y2) % s.st = y2 := by rw [Int.mul_comm, Int.mul_add_emod_self_left]; exact Int.emod_eq_of_lt (by omega) q2
    have d1 : ((x1 : Int) * s.st + y1) / s.st = x1 := by rw [Int.mul_comm, Int.mul_add_ediv_left _ _ (by omega), Int.ediv_eq_zero_of_lt (by omega) q1]; omega
    have d2 : ((x2 : Int) * s.st + y2) / s.st = x2 := by rw [Int.mul_comm, Int.mul_add_ediv_left _ _ (by omega), Int.ediv_eq_zero_of_lt (by omega) q2]; omega
    rw [e'] at m1 d1
    have ex : x1 = x2 := by omega
    have ey : y1 = y2 := by omega
    rw [ex, ey]
  have h2 := pig (p.st.toNat * s.st.toNat) _ h1 (fun u hu => by
    obtain ⟨t, ht, rfl⟩ := List.mem_map.1 hu
    obtain ⟨x1, y1, rfl, p1, q1⟩ := Vt2 (hz.v t ht)
    show 0 ≤ (x1 : Int) * s.st + y1 ∧ (x1 : Int) * s.st + y1 < _
    have e1 : s.st = (s.st.toNat : Int) := by omega
    have l1 : x1 + 1 ≤ p.st.toNat := by omega
    have l2 : y1 < s.st.toNat := by omega
    have := Nat.mul_le_mul_right s.st.toNat l1
    rw [Nat.add_mul, Nat.one_mul] at this
    rw [e1]
    refine ⟨Int.add_nonneg (Int.mul_nonneg (by omega) (by omega)) (by omega), ?_⟩
    have h3 : x1 * s.st.toNat + y1 < p.st.toNat * s.st.toNat := by omega
    exact_mod_cast h3)
  simpa using h2
theorem syE_some2 {p s : Aut} (hp : Okay p) (hs : Okay s) (hm : p.st.toNat * s.st.toNat < 4096) {z : Sy} (hz : SyOk [p, s] z) (hd : z.tup.Nodup) (i : Nat) (t : List Int) (v : Int) : ∃ z', syE [p, s] i t z v = some z' ∧ z'.tup.Nodup := by
  have hl := tup_le hp hs hz hd
  unfold syE
  cases stepT v [p, s] t with
  | none => exact ⟨z, rfl, hd⟩
  | some u =>
    simp only []
    by_cases hu : u ∈ z.tup
    · rw [if_pos hu]; exact ⟨_, rfl, hd⟩
    · rw [if_neg hu, if_neg (by omega)]
      exact ⟨_, rfl, nodup_snoc hd hu⟩
theorem syEs_some2 {p s : Aut} (hp : Okay p) (hs : Okay s) (hm : p.st.toNat * s.st.toNat < 4096) (ho : ∀ a ∈ [p, s], Okay a) {i : Nat} {t : List Int} (ht : Vt [p, s] t) : ∀ (vs : List Int) (z : Sy), SyOk [p, s] z → z.tup.Nodup → ∃ z', syEs [p, s] i t vs z = some z' ∧ z'.tup.Nodup
  | [], z, _, hd => ⟨z, rfl, hd⟩
  | v :: vs, z, hz, hd => by
    obtain ⟨s1, h1, h2⟩ := syE_some2 hp hs hm hz hd i t v
    obtain ⟨s2, h3, h4⟩ := syEs_some2 hp hs hm ho ht vs s1 (syE_ok ho hz ht h1) h2
    exact ⟨s2, by rw [syEs, h1]; exact h3, h4⟩
theorem syL_some2 {p s : Aut} (hp : Okay p) (hs : Okay s) (hm : p.st.toNat * s.st.toNat < 4096) (ho : ∀ a ∈ [p, s], Okay a) : ∀ (f i : Nat) (z : Sy), SyOk [p, s] z → z.tup.Nodup → ∃ z', syL [p, s] f i z = some z'
  | 0, _, z, _, _ => ⟨z, rfl⟩
  | f + 1, i, z, hz, hd => by
    rw [syL]
    split
    · rename_i hi
      have hv : Vt [p, s] (syT z i) := hz.v _ (by unfold syT; simp [List.getD, hi])
      have hmk : (syMark [p, s] i (syT z i) z).tup = z.tup := by unfold syMark; split <;> rfl
      obtain ⟨s1, h1, h2⟩ := syEs_some2 hp hs hm ho hv (evs [p, s]) (syMark [p, s] i (syT z i) z) (syMark_ok hz) (by rw [hmk]; exact hd)
      obtain ⟨s2, h3⟩ := syL_some2 hp hs hm ho f (i + 1) s1 (syEs_ok ho hv _ _ _ (syMark_ok hz) h1) h2
      exact ⟨s2, by rw [h1]; exact h3⟩
    · exact ⟨z, rfl⟩
theorem opE_small {p s : Aut} (hp : Okay p) (hs : Okay s) (hsub : ∀ x ∈ s.al, x ∈ p.al) (hm : p.st.toNat * s.st.toNat < 4096) : opE p s = 0 := by
  have ho : ∀ a ∈ [p, s], Okay a := fun a ha => by
    simp only [List.mem_cons, List.not_mem_nil, or_false] at ha
    rcases ha with rfl | rfl
    · exact hp
    · exact hs
  have hc : opC p s = 0 := by
    unfold opC
    rw [if_neg (by simp [(ckA_zero p).2 hp]), if_neg (by simp [(ckA_zero s).2 hs]), if_pos]
    refine List.eq_nil_iff_forall_not_mem.2 fun x hx => ?_
    have := (mem_mrg hs.ali hp.ali x).1 hx
    simp only [Bool.and_eq_true, decide_eq_true_eq, Bool.not_eq_true', decide_eq_false_iff_not] at this
    exact this.2.2 (hsub x this.2.1)
  unfold opE
  rw [if_neg (by simp [hc])]
  have hsome : ∃ z, sync [p, s] = some z := by
    unfold sync
    split
    · exact ⟨_, rfl⟩
    · rename_i hz
      obtain ⟨z, hz2⟩ := syL_some2 hp hs hm ho 4096 0 (sy0 [p, s]) (sy0_ok ho hz) (by simp [sy0])
      rw [hz2]; exact ⟨_, rfl⟩
  obtain ⟨z, hz⟩ := hsome
  rw [hz]
theorem eqv_empty {a b : Aut} (ha : Okay a) (hb : Okay b) (za : a.st = 0) (zb : b.st = 0) (al : List Int) : eqv a b al = none := by
  refine eqv_none (Rl := fun x y => x = -1 ∧ y = -1) ?_ ?_ ?_
  · rw [if_neg (by omega), if_neg (by omega)]; exact ⟨rfl, rfl⟩
  · rintro x y v _ ⟨rfl, rfl⟩
    have key : ∀ {a : Aut}, Okay a → nxt a.ed (-1) v = -1 := fun {a} ho => by
      rw [nxt_eget]
      cases hg : eget a.ed (-1) v with
      | none => rfl
      | some u => have := (ho.ed _ (eget_mem hg)).1; simp only [] at this; omega
    exact ⟨key ha, key hb⟩
  · rintro x y ⟨rfl, rfl⟩
    unfold dfr
    have ma : decide ((-1 : Int) ∈ a.mr) = false := decide_eq_false fun hm => by have := (ha.mr _ hm).1; omega
    have mb : decide ((-1 : Int) ∈ b.mr) = false := decide_eq_false fun hm => by have := (hb.mr _ hm).1; omega
    rw [ma, mb]; rfl
/-- The reduced supervisor of a problem. -/
structure RdK (p s : Aut) : Prop where
  pb : Pb p (rdA p s)
  al : (rdA p s).al = s.al
  st : (rdA p s).st ≤ s.st
  bi : 0 < (opQ p s).length → (∃ R, Bis p s (rdA p s) R) ∧ 0 < (rdA p s).st
  ze : (opQ p s).length = 0 → p.st = 0 ∨ (rdA p s).st = 0
theorem rd_keeps {p s : Aut} (h : Pb p s) : RdK p s := by
  have hE := h.opE0
  have hR := red_law hE
  obtain ⟨hSy, hOA, hQz⟩ := opE_syP hE
  have hs5 := h.s5
  have s0 := h.s.st0
  have hok : Okay (rdA p s) := by rw [hR.eq]; exact canA_okay hR.ok
  have hal : (rdA p s).al = s.al := by
    rw [hR.eq]
    unfold canA
    split <;> rfl
  by_cases hq : (opQ p s).length = 0
  · have hq' : opQ p s = [] := List.eq_nil_of_length_eq_zero hq
    have he : rdA p s = ⟨s.al, 0, [], []⟩ := by unfold rdA; rw [if_pos hq']
    have hst : (rdA p s).st = 0 := by rw [he]
    exact ⟨⟨h.p, hok, h.p5, by omega, fun x hx => h.sub x (by rw [hal] at hx; exact hx)⟩, hal, by omega, fun h0 => by omega, fun _ => .inr hst⟩
  · obtain ⟨R1, hB1, hst1⟩ := bis_red hE h.sub (by omega)
    obtain ⟨R2, hB2, _, hle, hpos⟩ := bis_can (p := p) hR.ok hst1
    have hle2 : (lwRed p s).st ≤ s.st := by
      have hm : (lwRed p s).st = ((lwNums (lwCls p s)).2 : Int) := rfl
      have hcnt : (lwNums (lwCls p s)).2 ≤ s.st.toNat := by
        have key : ∀ (d : List Int) (k : Nat), ((List.range' 0 k).foldl (lwN d) ([], 0)).2 ≤ k := by
          intro d k
          induction k with
          | zero => exact Nat.le_refl _
          | succ k ih =>
            rw [List.range'_1_concat, List.foldl_append, Nat.zero_add]
            simp only [List.foldl_cons, List.foldl_nil]
            generalize (List.range' 0 k).foldl (lwN d) ([], 0) = z at ih
            unfold lwN
            split
            · exact Nat.le_succ_of_le ih
            · split
              · exact Nat.succ_le_succ ih
              · exact Nat.le_succ_of_le ih
        unfold lwNums
        rw [show (lwCls p s).length = s.st.toNat from hR.tr.ld]
        exact key _ _
      rw [hm]; omega
    rw [← hR.eq] at hB2 hle hpos
    exact ⟨⟨h.p, hok, h.p5, by omega, fun x hx => h.sub x (by rw [hal] at hx; exact hx)⟩, hal, by omega, fun _ => ⟨⟨_, hB1.comp hB2⟩, hpos⟩, fun e => absurd e hq⟩
/-- What Equivalent finds: no word. -/
theorem keeps_eq {p s t : Aut} (h : Pb p s) (ht : Okay t) (hsub : ∀ x ∈ t.al, x ∈ p.al) (hE : opE p t = 0) (hb : 0 < (opQ p s).length → (∃ R, Bis p s t R) ∧ 0 < t.st) (hz : (opQ p s).length = 0 → p.st = 0 ∨ t.st = 0) : eqv (opA p s) (opA p t) p.al = none := by
  have hE1 := h.opE0
  obtain ⟨hSy, hOA, hQz⟩ := opE_syP hE1
  obtain ⟨hSy2, hOB, hQz2⟩ := opE_syP hE
  by_cases hq : (opQ p s).length = 0
  · have h2 : (opQ p t).length = 0 := hQz2.2 (hz hq)
    exact eqv_empty hOA hOB (by rw [hSy.st, hq]; rfl) (by rw [hSy2.st, h2]; rfl) _
  · obtain ⟨⟨R, hB⟩, hpos⟩ := hb (by omega)
    refine bis_none hSy hSy2 (evs_two h.p h.s h.sub) (evs_two h.p ht hsub) hOA hOB hB ⟨fun e => absurd e hq, fun e => ?_⟩
    have := hQz2.1 e
    rcases this with h3 | h3
    · exact hQz.2 (.inl h3)
    · omega
structure KpR (p s : Aut) : Prop where
  e1 : rdE p s = 0
  pb1 : Pb p (rdA p s)
  e2 : rdE p (rdA p s) = 0
  pb2 : Pb p (rdA p (rdA p s))
  le1 : (rdA p s).st ≤ s.st
  le2 : (rdA p (rdA p s)).st ≤ (rdA p s).st
  lok : Okay (opA p s)
  lst : (opA p s).st ≤ 25
  lE : opE p (opA p s) = 0
  q1 : eqv (opA p s) (opA p (rdA p s)) p.al = none
  q2 : eqv (opA p s) (opA p (rdA p (rdA p s))) p.al = none
  q3 : eqv (opA p s) (opA p (opA p s)) p.al = none
theorem keeps_law {p s : Aut} (h : Pb p s) : KpR p s := by
  have K1 := rd_keeps h
  have K2 := rd_keeps K1.pb
  have hE := h.opE0
  obtain ⟨hSy, hOA, hQz⟩ := opE_syP hE
  obtain ⟨hSy1, _, hQz1⟩ := opE_syP K1.pb.opE0
  have p0 := h.p.st0
  have p5 := h.p5
  have s0 := h.s.st0
  have s5 := h.s5
  have ea := evs_two h.p h.s h.sub
  have hlst : (opA p s).st ≤ 25 := by
    have h1 : (opQ p s).length ≤ 25 := by
      have hk : ((opQ p s).map encT).Nodup := by
        unfold List.Nodup
        rw [List.pairwise_map]
        refine List.Pairwise.imp_of_mem (fun {a b} ha hb hne => ?_) hSy.nd
        obtain ⟨x1, y1, rfl, p1, q1⟩ := Vt2 (hSy.v a ha)
        obtain ⟨x2, y2, rfl, p2, q2⟩ := Vt2 (hSy.v b hb)
        intro e
        have e' : (x1 : Int) * 5 + y1 = x2 * 5 + y2 := e
        have ex : x1 = x2 := by omega
        have ey : y1 = y2 := by omega
        exact hne (by rw [ex, ey])
      have := pig 25 _ hk (fun z hz => by
        obtain ⟨t, ht, rfl⟩ := List.mem_map.1 hz
        obtain ⟨x1, y1, rfl, p1, q1⟩ := Vt2 (hSy.v t ht)
        show 0 ≤ (x1 : Int) * 5 + y1 ∧ (x1 : Int) * 5 + y1 < 25
        omega)
      simpa using this
    rw [hSy.st]; omega
  have hLsub : ∀ x ∈ (opA p s).al, x ∈ p.al := fun x hx => by rw [hSy.al, ea] at hx; exact hx
  have hLE : opE p (opA p s) = 0 := opE_small h.p hOA hLsub (by
    have h1 : p.st.toNat ≤ 5 := by omega
    have h2 : (opA p s).st.toNat ≤ 25 := by omega
    have := Nat.mul_le_mul h1 h2
    omega)
  refine ⟨(red_law hE).e0, K1.pb, (red_law K1.pb.opE0).e0, K2.pb, K1.st, K2.st, hOA, hlst, hLE, ?_, ?_, ?_⟩
  · exact keeps_eq h K1.pb.s K1.pb.sub K1.pb.opE0 K1.bi K1.ze
  · refine keeps_eq h K2.pb.s K2.pb.sub K2.pb.opE0 (fun hq => ?_) (fun hq => ?_)
    · obtain ⟨⟨R1, b1⟩, s1⟩ := K1.bi hq
      have hq1 : 0 < (opQ p (rdA p s)).length := by
        rcases Nat.eq_zero_or_pos (opQ p (rdA p s)).length with e | e
        · rcases hQz1.1 e with h3 | h3
          · have := hQz.2 (.inl h3); omega
          · omega
        · exact e
      obtain ⟨⟨R2, b2⟩, s2⟩ := K2.bi hq1
      exact ⟨⟨_, b1.comp b2⟩, s2⟩
    · rcases K1.ze hq with h3 | h3
      · exact .inl h3
      · exact .inr (by have := K2.st; have := K2.pb.s.st0; omega)
  · refine keeps_eq h hOA hLsub hLE (fun hq => ?_) (fun hq => ?_)
    · exact ⟨⟨_, bis_loop h.p h.s h.sub hSy hq⟩, by rw [hSy.st]; omega⟩
    · exact .inr (by rw [hSy.st, hq]; rfl)
end Go.Proofs.YtfhgnlkdcdlblaaDoor
/- The function SupervisorKeeps returns true. -/
namespace Go.Lg
theorem r_gtrF {P : Program} {f : Fr} {w : World} {d : Option Nat} {ty : Nat} {ps : String} {af : Array Edge} {gd : Option (Nat × Bool)} {t t' : Nat} {x y : Operand} {k : IntKind} {a b : Int} (hx : ev f x = .int k a) (hy : ev f y = .int k b) (h : a ≤ b) :
    (execOp (ev f) ⟨d, .binOp .gtr t x y t', ty, ps, af, gd⟩).run P w = .ok (.value (.bool false)) w := by
  rw [r_gtr hx hy, decide_eq_false (by omega)]
end Go.Lg
namespace Go.Proofs.YtfhgnlkdcdlblaaDoor
open Go.Lg

set_option maxHeartbeats 8000000 in
theorem lawKeeps_ok {ns : List Nat} (hn : ns.length = 57) (hns : ∀ n ∈ ns, n < 256) (w : World) :
    Ret Tryd.prog 6 [.agg (bys ns).toArray] w fun r w' => r = .bool true ∧ Step [] w w' := by
  refine Ret.of_W Tryd.func6 rfl Tryd.ntmps6 Tryd.results6 (by simp) ?_
  refine W_seq <| W_region (by rfl) ?_
  refine xl rfl <| o_box (us := bys ns) rfl fun b1 w1 hs1 hb1 hB1 => x r_assign <| xe ?_
  refine W_seq <| W_seq <| W_region (by rfl) ?_
  refine xl rfl <| xf <| (known_ok w1).mono ?_
  rintro r2 w2 ⟨rfl, hs2⟩
  refine x (r_not rfl) <| xe ?_
  refine W_false rfl ?_
  refine W_skip ?_
  refine W_seq <| W_region (by rfl) ?_
  refine x (r_loadsB (hB1.ext hs2) rfl (by simp [bys]; exact hn)) <| xl rfl <| xf <| (make26_ok hn hns).mono ?_
  rintro r3 w3 ⟨hs3, vp, vs, vu, aP, aS, u, rfl, hFP, hFS, hPb, huo⟩
  obtain ⟨pva, pvm, pve, rfl, hPA⟩ := hFP
  obtain ⟨sva, svm, sve, rfl, hSA⟩ := hFS
  have hP0 := hPA [] (by simp)
  have hS0 := hSA [] (by simp)
  have hE0 := hPb.opE0
  have hK := keeps_law hPb
  have hW3 := (hs1.trans hs2).trans hs3
  refine x r_move <| x (r_extract rfl rfl) <| x (r_extract rfl rfl) <|
    x (r_extract rfl rfl) <| xl rfl <| o_alloc (us := [.slice none 0 0, .int .i64 0, .slice none 0 0, .slice none 0 0]) rfl fun b3 w4 hs4 hb3 hB3 => xl rfl <| o_alloc (us := [.slice none 0 0, .int .i64 0, .slice none 0 0, .slice none 0 0]) rfl fun b4 w5 hs5 hb4 hB4 =>
    xl rfl <| o_stores (us := [pva, .int .i64 aP.st, pvm, pve]) (hB3.ext hs5) rfl rfl rfl rfl ⟨hP0.al.one, rfl, hP0.mr.one, hP0.ed.one, trivial⟩ fun w6 hs6 hB36 => ?_
  have hl3 := hB3.lt
  have hz4 := hs4.size
  have hB46 := hB4.step hs6 (by simp; omega)
  refine xl rfl <| o_stores (us := [sva, .int .i64 aS.st, svm, sve]) hB46 rfl rfl rfl rfl ⟨hS0.al.one, rfl, hS0.mr.one, hS0.ed.one, trivial⟩ fun w7 hs7 hB47 => x r_assign <| xe ?_
  have hB37 := hB36.step hs7 (by simp; omega)
  have hs37 : Step [] w3 w7 := ((hs4.trans hs5).then1 hs6 hb3).then1 hs7 (by omega)
  have hW7 := hW3.trans hs37
  have hP7 := hP0.ext hs37
  have hS7 := hS0.ext hs37
  refine exE (rdA aP aS) fun aR hR => exE (rdA aP aR) fun aG hG => ?_
  have hk1 := hK.e1
  have hkb1 := hK.pb1
  have hk2 := hK.e2
  have hkb2 := hK.pb2
  have hle1 := hK.le1
  have hle2 := hK.le2
  have hq1 := hK.q1
  have hq2 := hK.q2
  rw [hR] at hkb1 hk2 hkb2 hle1 hle2 hq1 hq2
  rw [hG] at hkb2 hle2 hq2
  refine W_seq <| W_region (by rfl) ?_
  refine x (r_loadsB hB37 rfl rfl) <| x (r_loadsB hB47 rfl rfl) <| xl rfl <| xf <| (Reduce_ok hP7 hS7 hPb.st100).mono ?_
  rintro r8 w8 ⟨hs8, vr, hr8, _, hgr⟩
  rw [hk1] at hr8
  subst hr8
  have hFr := hgr hk1
  rw [hR] at hFr
  obtain ⟨rva, rvm, rve, rfl, hRA⟩ := hFr
  have hR8 := hRA [] (by simp)
  refine x r_move <| x (r_extract rfl rfl) <|
    x (r_extract rfl rfl) <| xl rfl <| o_alloc (us := [.slice none 0 0, .int .i64 0, .slice none 0 0, .slice none 0 0]) rfl fun b6 w9 hs9 hb6 hB6 => xl rfl <| o_stores (us := [rva, .int .i64 aR.st, rvm, rve]) hB6 rfl rfl rfl rfl ⟨hR8.al.one, rfl, hR8.mr.one, hR8.ed.one, trivial⟩ fun w10 hs10 hB610 => x r_assign <|
    xe ?_
  have hs810 : Step [] w8 w10 := hs9.then1 hs10 hb6
  have hs710 := hs8.trans hs810
  have hR10 := hR8.ext hs810
  refine W_seq <| W_region (by rfl) ?_
  refine x (r_loadsB (hB37.ext hs710) rfl rfl) <| x (r_loadsB hB610 rfl rfl) <| xl rfl <| xf <| (Reduce_ok (hP7.ext hs710) hR10 hkb1.st100).mono ?_
  rintro r11 w11 ⟨hs11, vg, hr11, _, hgg⟩
  rw [hk2] at hr11
  subst hr11
  have hFg := hgg hk2
  rw [hG] at hFg
  obtain ⟨gva, gvm, gve, rfl, hGA⟩ := hFg
  have hG11 := hGA [] (by simp)
  refine x r_move <| x (r_extract rfl rfl) <|
    x (r_extract rfl rfl) <| xl rfl <| o_alloc (us := [.slice none 0 0, .int .i64 0, .slice none 0 0, .slice none 0 0]) rfl fun b8 w12 hs12 hb8 hB8 => xl rfl <| o_stores (us := [gva, .int .i64 aG.st, gvm, gve]) hB8 rfl rfl rfl rfl ⟨hG11.al.one, rfl, hG11.mr.one, hG11.ed.one, trivial⟩ fun w13 hs13 hB813 => x r_assign <|
    xe ?_
  have hs1113 : Step [] w11 w13 := hs12.then1 hs13 hb8
  have hs1013 := hs11.trans hs1113
  have hs713 := hs710.trans hs1013
  refine W_seq <| W_region (by rfl) ?_
  refine x (r_loadsB (hB37.ext hs713) rfl rfl) <| x (r_loadsB (hB47.ext hs713) rfl rfl) <| xl rfl <| xf <| (Loop_ok (hP7.ext hs713) (hS7.ext hs713) hPb.st100).mono ?_
  rintro r14 w14 ⟨hs14, vl, hr14, _, hgl⟩
  rw [hE0] at hr14
  subst hr14
  obtain ⟨lva, lvm, lve, rfl, hLA⟩ := hgl hE0
  have hL14 := hLA [] (by simp)
  refine x r_move <| x (r_extract rfl rfl) <|
    x (r_extract rfl rfl) <| xl rfl <| o_alloc (us := [.slice none 0 0, .int .i64 0, .slice none 0 0, .slice none 0 0]) rfl fun b10 w15 hs15 hb10 hB10 => xl rfl <| o_stores (us := [lva, .int .i64 (opA aP aS).st, lvm, lve]) hB10 rfl rfl rfl rfl ⟨hL14.al.one, rfl, hL14.mr.one, hL14.ed.one, trivial⟩ fun w16 hs16 hB1016 =>
    x r_assign <| xe ?_
  have hs1416 : Step [] w14 w16 := hs15.then1 hs16 hb10
  have hs1316 := hs14.trans hs1416
  have hs716 := hs713.trans hs1316
  have hs1016 := hs1013.trans hs1316
  have hR16 := hR10.ext hs1016
  have hG16 := (hG11.ext hs1113).ext hs1316
  have hL16 := hL14.ext hs1416
  have hB616 := hB610.ext hs1016
  have hB816 := hB813.ext hs1316
  have hB416 := hB47.ext hs716
  have hckR := (ckA_zero aR).2 hkb1.s
  refine W_seq <| W_seq <| W_region (by rfl) ?_
  refine x r_move <| x (r_neq rfl rfl) <| x r_move <| x r_move <| x (r_neq rfl rfl) <| x (r_pick rfl) <| x r_move <| x r_move <| x (r_neq rfl rfl) <| x (r_pick rfl) <| x r_move <| x (r_fieldB rfl) <| x (r_loadB hB616 rfl rfl) <| x (r_fieldB rfl) <| x (r_loadB hB416 rfl rfl) <| x (r_gtrF rfl rfl hle1) <|
    x (r_pick rfl) <| x r_move <| x (r_fieldB rfl) <| x (r_loadB hB816 rfl rfl) <| x (r_fieldB rfl) <| x (r_loadB hB616 rfl rfl) <| x (r_gtrF rfl rfl hle2) <|
    x (r_pick rfl) <| x r_move <| x (r_loadsB hB616 rfl rfl) <| xl rfl <| xf <| (check_ok hR16).mono ?_
  rintro r17 w17 ⟨hr17, hs17⟩
  rw [hckR] at hr17
  subst hr17
  refine x (r_neq rfl rfl) <| x (r_pick rfl) <| xe ?_
  refine W_false rfl ?_
  refine W_skip ?_
  have hs1617 := hs17
  refine W_seq <| W_seq <| W_region (by rfl) ?_
  refine x (r_loadsB (hB616.ext hs17) rfl rfl) <| x (r_loadsB (hB816.ext hs17) rfl rfl) <| x (r_loadsB (hB1016.ext hs17) rfl rfl) <| xl rfl <| o_lits (us := [avCells ⟨rva, rvm, rve, aR⟩, avCells ⟨gva, gvm, gve, aG⟩, avCells ⟨lva, lvm, lve, opA aP aS⟩]) rfl rfl (by decide) (by exact (by decide : 3 * 4 ≤ 1000000)) ⟨rfl, rfl, rfl, rfl, rfl, rfl, trivial⟩ fun b75 w19 hs19 hb75 hB75 => ?_
  have hs1619 := hs17.trans hs19
  refine exE ([⟨rva, rvm, rve, aR⟩, ⟨gva, gvm, gve, aG⟩, ⟨lva, lvm, lve, opA aP aS⟩] : List AV) fun ls hls => ?_
  have hlen : ls.length = 3 := by rw [← hls]; rfl
  have hAu : Arr [] w19.heap (.slice (some ⟨b75, 0, none⟩) 3 3) ls.length 4 (ls.flatMap avCells) := by rw [← hls]; exact hB75.arr (by simp) rfl (by simp) (by simp)
  have hEach : ∀ q ∈ ls, AutA [] w19.heap q.va q.vm q.ve q.a ∧ opE aP q.a = 0 ∧ q.a.st ≤ 100 ∧ eqv (opA aP aS) (opA aP q.a) aP.al = none := by
    intro q hq
    rw [← hls] at hq
    simp only [List.mem_cons, List.not_mem_nil, or_false] at hq
    rcases hq with rfl | rfl | rfl
    · exact ⟨hR16.ext hs1619, hkb1.opE0, by have := hkb1.s5; simp only []; omega, hq1⟩
    · exact ⟨hG16.ext hs1619, hkb2.opE0, by have := hkb2.s5; simp only []; omega, hq2⟩
    · exact ⟨hL16.ext hs1619, hK.lE, by have := hK.lst; simp only []; omega, hK.q3⟩
  have hAu3 : Arr [] w19.heap (.slice (some ⟨b75, 0, none⟩) 3 3) 3 4 (ls.flatMap avCells) := by have h := hAu; rw [hlen] at h; exact h
  refine x (r_lenA hAu3 rfl) <| x r_move <| xe ?_
  have hs719 := hs716.trans hs1619
  have hP19 := hP7.ext hs719
  have hS19 := hS7.ext hs719
  have hB319 := hB37.ext hs719
  have hB419 := hB47.ext hs719
  have hW19 := hW7.trans hs719
  have hp5 := hPb.p5
  refine W_block <| W_loop (α := Nat) [(2, 2), (13, 16), (77, 100)] (fun z => [(77, .int .i64 z)]) (fun z w' => z ≤ 3 ∧ Step [] w19 w') (fun z => 3 - z) (by rfl) 0 ⟨rfl, trivial⟩ ⟨Nat.zero_le _, Step.refl _ _⟩ ?_
  rintro k g20 w20 ⟨hk, hs20⟩
  refine W_seq <| W_region (by rfl) ?_
  refine x (r_lss rfl rfl) <| xe ?_
  refine W_seq <| W_ifn rfl (fun h78 => ?_) (fun h78 => ?_)
  · refine W_exit ?_
    refine W_seq <| W_region (by rfl) ?_
    refine x r_assign <| xe ?_
    exact W_ret ⟨[.bool true], ⟨rfl, trivial⟩, rfl, hW19.trans hs20⟩
  have hklt : k < ls.length := by have h79 : (k : Int) < ((3 : Nat) : Int) := h78; omega
  have hEk := hEach _ (List.getElem_mem hklt)
  refine exE (ls[k]'hklt) fun q hq => ?_
  rw [hq] at hEk
  have hqA := hEk.1.ext hs20
  refine W_skip ?_
  refine W_seq <| W_block <| W_seq <| W_region (by rfl) ?_
  refine xig (g := avCells) (i := k) av_len (hAu.ext hs20) rfl rfl hklt fun a79 h79 => ?_
  rw [hq] at h79
  refine x (r_loadsA h79 rfl rfl) <| xl rfl <| o_alloc (us := [.slice none 0 0, .int .i64 0, .slice none 0 0, .slice none 0 0]) rfl fun b13 w21 hs21 hb13 hB13 => xl rfl <| o_stores (us := avCells q) hB13 rfl rfl rfl rfl ⟨hqA.al.one, rfl, hqA.mr.one, hqA.ed.one, trivial⟩ fun w22 hs22 hB1322 =>
    xe ?_
  have hs2022 : Step [] w20 w22 := hs21.then1 hs22 hb13
  have hs1922 := hs20.trans hs2022
  refine W_seq <| W_region (by rfl) ?_
  refine x (r_loadsB (hB319.ext hs1922) rfl rfl) <| x (r_loadsB (hB419.ext hs1922) rfl rfl) <| x (r_loadsB hB1322 rfl rfl) <| xl rfl <| xf <| (Equivalent_ok (hP19.ext hs1922) (hS19.ext hs1922) (hqA.ext hs2022) hPb.st100 (fun _ _ => ⟨by omega, hEk.2.2.1⟩) hE0 hEk.2.1).mono ?_
  rintro r23 w23 ⟨hs23, hr23⟩
  rw [hEk.2.2.2] at hr23
  have hr23' : r23 = .tuple #[nilS, .bool true, .int .i64 0] := hr23
  subst hr23'
  refine x r_move <| x (r_extract rfl rfl) <| x (r_extract rfl rfl) <| x (r_extract rfl rfl) <| x r_assign <| x r_assign <| x r_assign <| xe ?_
  refine W_seq <| W_region (by rfl) ?_
  refine x r_move <| x (r_lenA (Arr.nil [] w23.heap 1) rfl) <| x (r_neq rfl rfl) <|
    x r_move <| x r_move <| x (r_not rfl) <| x (r_pick rfl) <| x r_move <| x r_move <| x (r_neq rfl rfl) <| x (r_pick rfl) <|
    xe ?_
  refine W_false rfl ?_
  refine W_skip ?_
  refine W_region (by rfl) ?_
  refine x (r_add rfl rfl ⟨by omega, by omega⟩) <| x r_move <| xe ?_
  exact ⟨k + 1, by omega, ⟨rfl, trivial⟩, by omega, hs1922.trans hs23⟩
end Go.Proofs.YtfhgnlkdcdlblaaDoor
/- What a law's row asks of a call that returns true and turns nothing that was there. -/
namespace Go.Lg
open Go.ChangeShapes Go.WideShapes Go.RowKit
section
variable {H : Type} {enc : TypeId × Value → H} {P : Program}
/-- The arguments read as they did. -/
theorem carry_all (hl : laidOutB P = true) {W W' : World} (hS : Step [] W W') {sp : Nat → Bool} : ∀ {ts : List TypeId} {vs : List Value} {ds : List (DataW H)} {ps : List MemPlace},
    (ts.all fun t => P.readableRec t && decide (t < P.types.size)) = true → DataW.TrodAll enc P W 0 (fun _ => true) true ts vs ds ps → (∀ x ∈ ps, x.block < W.heap.size) → (∀ x ∈ ps, sp x.block = true) → DataW.TrodAll enc P W' 0 sp true ts vs ds ps
  | [], vs, ds, ps, _, h, _, _ => by
    obtain ⟨rfl, rfl, rfl⟩ := trodAll_nil h
    exact trodAll_mk0
  | t :: ts, vs, ds, ps, hr, h, hlt, hsp => by
    obtain ⟨v, vs1, d, ds1, a, b, rfl, rfl, rfl, h1, h2⟩ := trodAll_cons h
    simp only [List.all_cons, Bool.and_eq_true, decide_eq_true_eq] at hr
    have hb : Below W.heap.size W W' := hS.below
    refine trodAll_cons_mk (WideElems.Trod_stays hl hr.1.1 hr.1.2 h1 (fun x hx => hb.same (hlt x (List.mem_append_left _ hx))) (fun x hx => hsp x (List.mem_append_left _ hx))) ?_
    exact carry_all hl hS (by simpa using hr.2) h2 (fun x hx => hlt x (List.mem_append_right _ hx)) (fun x hx => hsp x (List.mem_append_right _ hx))
theorem law_post {f : Func} {s : ChangeSpec} {apart fresh handsOn again : Bool} {W W' : World} {args : Array Value} {ds gs : List (DataW H)} {before : List MemPlace} {tb : TypeId}
    (hl : laidOutB P = true) (hread : (f.params.toList.all fun t => P.readableRec t && decide (t < P.types.size)) = true) (hrt : f.resultTypes = #[tb]) (htb : P.underlying tb = some .bool) (hvr : s.vars = [])
    (hfn : s.fn H (ds ++ gs) = { results := [.lit (.bool true)], args := ds })
    (hW : DataW.Whole enc P f.params.toList s.vars apart W args.toList ds gs before) (hS : Step [] W W') : s.post enc P f apart fresh handsOn again W args (.bool true) W' := by
  have hlt := hW.lt
  have hW' := hW
  obtain ⟨p, q, hA, hV, rfl, hz, hn⟩ := hW
  rw [hvr] at hV
  obtain ⟨rfl, rfl⟩ := trodVars_none hV
  rw [List.append_nil] at *
  have hargs : ∀ sp : Nat → Bool, (∀ x ∈ p, sp x.block = true) → DataW.TrodAll enc P W' 0 sp true f.params.toList args.toList ds p := fun sp hsp => carry_all hl hS hread hA hlt hsp
  have hres : ∀ (b : Nat) (sp : Nat → Bool) (hd : Bool), DataW.TrodAll enc P W' b sp hd f.resultTypes.toList ((Value.bool true).resultList f.resultTypes.size) [.lit (.bool true)] [] := fun b sp hd => by
    rw [hrt]; exact trodAll_mk1 (shut_bool htb true)
  have hb : Below W.heap.size W W' := hS.below
  have hvars : ∀ sp : Nat → Bool, DataW.TrodVars enc P W' sp s.vars ([] : List (DataW H)) [] := fun sp => by rw [hvr]; rfl
  have hfn1 : (s.fn H ds).results = [.lit (.bool true)] := by rw [hfn]
  have hfn2 : (s.fn H ds).args = ds := by rw [hfn]
  have hfn3 : (s.fn H ds).vars = [] := by rw [hfn]
  have hok : ∀ (j : Nat) (t : TypeId) (r : Value), f.resultTypes[j]? = some t → ((Value.bool true).resultList f.resultTypes.size)[j]? = some r → Value.okWide P W' .any 0 t r := ok_one hrt rfl (okWide_bool_mk htb true)
  refine ⟨ds, [], p, [], p, [], hW', ?_, ?_, ?_, ?_, fun _ => ⟨hok, [.lit (.bool true)] ++ ds, [], ([] ++ p) ++ [], ⟨[] ++ p, [], ?_, ?_, rfl, ?_, ?_⟩, ?_⟩⟩
  · rw [List.append_nil, hfn1]; exact hres _ _ _
  · rw [List.append_nil, hfn2]; exact hargs _ (fun x hx => by simpa using hlt x hx)
  · rw [List.append_nil, hfn3]; exact hvars _
  · exact World.keptBut_mono (fun _ f => f.elim) (hb.frame (fun _ => False))
  · exact trodAll_append (hargs _ (fun _ _ => rfl)) (hres _ _ _)
  · exact hvars _
  · intro b off hp
    have hp' : MemPlace.cell b off ∈ p := by simpa using hp
    rw [hb.frozen (p := ⟨b, off, none⟩) (hlt _ hp')]
    exact hz b off hp'
  · intro ha
    have := hn ha
    simpa using this
  · intro x hx _
    simpa using hx
end
end Go.Lg
/- Arguments of laws: structs of bytes, slices of bytes. -/
namespace Go.Proofs.YtfhgnlkdcdlblaaDoor
open Go.ChangeShapes Go.WideShapes Go.RowKit Go.Lg

def isU8 (P : Program) (u : TypeId) : Bool := match P.underlying u with
  | some (.int .u8) => true
  | _ => false
theorem isU8_spec {P : Program} {u : TypeId} (h : isU8 P u = true) : P.underlying u = some (.int .u8) := by
  unfold isU8 at h
  split at h
  · assumption
  · cases h
theorem bys_of : ∀ (l : List Value), (∀ v ∈ l, ∃ n : Nat, v = .int .u8 (n : Int) ∧ n < 256) → ∃ ns : List Nat, l = bys ns ∧ ns.length = l.length ∧ ∀ n ∈ ns, n < 256
  | [], _ => ⟨[], rfl, rfl, by simp⟩
  | v :: l, h => by
    obtain ⟨n, rfl, hn⟩ := h v List.mem_cons_self
    obtain ⟨ns, h1, h2, h3⟩ := bys_of l (fun v hv => h v (List.mem_cons_of_mem _ hv))
    refine ⟨n :: ns, by rw [h1]; rfl, by simp [h2], fun m hm => ?_⟩
    rcases List.mem_cons.1 hm with rfl | hm
    · exact hn
    · exact h3 m hm
/-- A struct of bytes alone: its cells. -/
theorem bytes_of {P : Program} {W : World} {base t m : Nat} {v : Value} {fs : Array Field} (hu : P.underlying t = some (.struct fs)) (hts : ((P.cellTypes P.depth t).map fun ts => ts.all (isU8 P)) = some true) (hc : P.cellsOf t = m) (hval : Value.okWide P W .any base t v) :
    ∃ ns : List Nat, v = .agg (bys ns).toArray ∧ ns.length = m ∧ ∀ n ∈ ns, n < 256 := by
  simp only [Value.okWide, hu] at hval
  obtain ⟨cs, rfl, hsz, ts, hts', _, hcell⟩ := hval
  rw [hts'] at hts
  simp only [Option.map_some, Option.some.injEq] at hts
  obtain ⟨l⟩ := cs
  obtain ⟨ns, h1, h2, h3⟩ := bys_of l (fun v hv => by
    obtain ⟨i, hi, rfl⟩ := List.getElem_of_mem hv
    obtain ⟨u, hu1, hu2⟩ := hcell i l[i] (by simp [hi])
    have hu3 := isU8_spec (List.all_eq_true.1 hts u (List.mem_of_getElem? hu1))
    simp only [Cell.okWide, hu3] at hu2
    generalize l[i] = x at hu2
    cases x <;> simp only [Cell.ok, hu3] at hu2
    obtain ⟨rfl, hr⟩ := hu2
    simp only [IntKind.has] at hr
    rw [show IntKind.u8.min = 0 from rfl, show IntKind.u8.max = 255 from rfl] at hr
    rename_i n
    exact ⟨n.toNat, by rw [Int.toNat_of_nonneg hr.1], by omega⟩)
  subst h1
  refine ⟨ns, rfl, ?_, h3⟩
  rw [h2, ← hc, ← hsz]; rfl
theorem At.of_cell {w : World} {a : Addr} {u : Value} (h : w.cell? a = some u) : At [] w.heap a [u] := by
  have hc : cel w.heap a = some u := h
  refine ⟨by simp, ?_, fun j v hv => ?_⟩
  · unfold cel at hc
    cases hb : w.heap[a.block]? with
    | none => rw [hb] at hc; cases hc
    | some o => exact (Array.getElem?_eq_some_iff.1 hb).1
  · cases j with
    | zero => simp at hv; subst hv; rw [show a.add 0 = a by simp [Addr.add]]; exact hc
    | succ j => simp at hv
theorem wf_nat {n : Int} (h : (Lit.int .u8 n).wf = true) : ∃ m : Nat, n = m ∧ m < 256 := by
  simp only [Lit.wf, Bool.and_eq_true, decide_eq_true_eq] at h
  rw [show IntKind.u8.min = 0 from rfl, show IntKind.u8.max = 255 from rfl] at h
  exact ⟨n.toNat, by omega, by omega⟩
/-- The first bytes of a slice that is handed over. -/
theorem bytes_slice {H : Type} {enc : TypeId × Value → H} {P : Program} {W : World} {base : Nat} {sp : Nat → Bool} {held : Bool} {t e : TypeId} {ad : Option Addr} {nb cb : Nat} {d : DataW H} {ps : List MemPlace} (ht : P.underlying t = some (.slice e)) (he : P.underlying e = some (.int .u8)) (hc : P.cellsOf e = 1)
    (h : DataW.Trod enc P W base sp held t (.slice ad nb cb) d ps) (m : Nat) :
    ∃ ms : List Nat, ms.length = min nb m ∧ (∀ k (hk : k < ms.length), ∃ a, ad = some a ∧ At [] W.heap (a.add (k * 1)) [.int .u8 ((ms[k]'hk : Nat) : Int)]) ∧ ∀ n ∈ ms, n < 256 := by
  obtain ⟨fuel, hf⟩ := h
  rcases open_ints ht he hc hf with ⟨hcs, _⟩ | ⟨a, len, cap, zs, hcs, _, hl, _, hz, _, hcell, hwz⟩
  · simp [Value.cells] at hcs
    obtain ⟨rfl, rfl, rfl⟩ := hcs
    exact ⟨[], by simp, fun k hk => by simp at hk, by simp⟩
  · simp [Value.cells] at hcs
    obtain ⟨rfl, rfl, rfl⟩ := hcs
    have hzl : nb ≤ zs.length := by rw [hz]; split <;> omega
    have hget : ∀ k, k < min nb m → ∃ n : Nat, zs.getD k 0 = (n : Int) ∧ n < 256 := fun k hk => wf_nat (hwz _ (by simp [List.getD, show k < zs.length by omega]))
    refine ⟨(zs.take (min nb m)).map Int.toNat, by simp; omega, fun k hk => ⟨a, rfl, ?_⟩, fun n hn => ?_⟩
    · have hk' : k < min nb m := by simp at hk; omega
      obtain ⟨n, hn, _⟩ := hget k hk'
      have h1 := hcell k (by omega)
      rw [hn] at h1
      have e1 : (((zs.take (min nb m)).map Int.toNat)[k]'hk : Nat) = n := by
        rw [List.getElem_map, List.getElem_take]
        have : zs[k]'(by omega) = zs.getD k 0 := by simp [List.getD, show k < zs.length by omega]
        rw [this, hn]; rfl
      rw [e1, Nat.mul_one]
      exact At.of_cell h1
    · obtain ⟨z, hz', rfl⟩ := List.mem_map.1 hn
      obtain ⟨n, rfl, hn2⟩ := wf_nat (hwz z (List.mem_of_mem_take hz'))
      simpa using hn2
end Go.Proofs.YtfhgnlkdcdlblaaDoor
