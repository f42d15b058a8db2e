/- A small program logic over the kit's wp: frames as functions, regions as lists of operations, any order of a drawn region by a plan. No program in sight. -/
import Derived.Orders
import Derived.Below
namespace Go.Lg
open Go.RowKit

/-! ### Frames -/
abbrev Fr := Nat → Value
def upd (f : Fr) (d : Nat) (v : Value) : Fr := fun t => bif Nat.beq t d then v else f t
def ev (f : Fr) : Operand → Value
  | .tmp t => f t
  | .const v => v
  | .global g => .pointer (some ⟨g, 0, none⟩)
  | .func g => .func (.func g) #[] #[]
def putF (f : Fr) : Option Nat → Value → Fr
  | some d, v => upd f d v
  | none, _ => f
structure Rel (n : Nat) (a : Act) (f : Fr) : Prop where
  size : a.tmps.size = n
  defers : a.defers = []
  get : ∀ t, a.tmps.getD t undef = f t

theorem upd_same (f : Fr) (d : Nat) (v : Value) : upd f d v d = v := by simp [upd]
theorem upd_ne (f : Fr) {d t : Nat} (v : Value) (h : t ≠ d) : upd f d v t = f t := by
  have : Nat.beq t d = false := by
    cases e : Nat.beq t d with
    | false => rfl
    | true => exact absurd (Nat.eq_of_beq_eq_true e) h
  simp [upd, this]

theorem Rel.eval {n : Nat} {a : Act} {f : Fr} (h : Rel n a f) : a.eval = ev f := by
  funext x; cases x with
  | tmp t => exact h.get t
  | _ => rfl

theorem Rel.put {n : Nat} {a : Act} {f : Fr} (h : Rel n a f) {dst : Option Nat} (hd : ∀ d, dst = some d → d < n) (v : Value) : Rel n (a.put dst v) (putF f dst v) := by
  cases dst with
  | none => exact h
  | some d =>
    have hlt : d < a.tmps.size := by rw [h.size]; exact hd d rfl
    refine ⟨by simp [Act.put, h.size], h.defers, fun t => ?_⟩
    by_cases e : t = d
    · subst e; rw [putF, upd_same]; simp [Act.put, hlt]
    · rw [putF, upd_ne _ _ e, ← h.get t]
      simp [Act.put, Array.getElem?_setIfInBounds_ne (Ne.symm e)]

/-! ### Which slots a piece of code writes -/
def wrsOps (l : List Oper) (t : Nat) : Bool := l.any fun o => match o.dst with | some d => Nat.beq d t | none => false
def wrs : Code → Nat → Bool
  | .region _ ops _, t => wrsOps ops.toList t
  | .seq a b, t => wrs a t || wrs b t
  | .cond _ a b, t => wrs a t || wrs b t
  | .block _ a, t => wrs a t
  | .loop a, t => wrs a t
  | .skip, _ | .exit _, _ | .label _, _ | .goto _, _ | .ret, _ => false
  | _, _ => true
def memR (D : List (Nat × Nat)) (t : Nat) : Bool := match D with
  | [] => false
  | (lo, hi) :: D => bif (Nat.ble lo t && Nat.ble t hi) then true else memR D t
def inD (D : List (Nat × Nat)) (d : Option Nat) : Bool := match d with | none => true | some d => memR D d
def wrOps (D : List (Nat × Nat)) (l : List Oper) : Bool := l.all fun o => inD D o.dst
/-- The code writes slots of D alone. -/
def wr (D : List (Nat × Nat)) : Code → Bool
  | .region _ ops _ => wrOps D ops.toList
  | .seq a b => wr D a && wr D b
  | .cond _ a b => wr D a && wr D b
  | .block _ a => wr D a
  | .loop a => wr D a
  | .skip | .exit _ | .label _ | .goto _ | .ret => true
  | _ => false
theorem wrsOps_of {D : List (Nat × Nat)} {l : List Oper} (h : wrOps D l = true) {t : Nat} (ht : memR D t = false) : wrsOps l t = false := by
  unfold wrOps at h; unfold wrsOps
  rw [List.any_eq_false]
  intro o ho
  have h1 := List.all_eq_true.1 h o ho
  cases hd : o.dst with
  | none => simp
  | some d =>
    rw [hd] at h1
    simp only [inD] at h1
    intro e
    have := Nat.eq_of_beq_eq_true e
    subst this
    rw [h1] at ht; cases ht
theorem wrs_of {D : List (Nat × Nat)} {t : Nat} (ht : memR D t = false) : ∀ c : Code, wr D c = true → wrs c t = false
  | .region _ ops _, h => wrsOps_of h ht
  | .seq a b, h => by simp only [wr, Bool.and_eq_true] at h; simp [wrs, wrs_of ht a h.1, wrs_of ht b h.2]
  | .cond _ a b, h => by simp only [wr, Bool.and_eq_true] at h; simp [wrs, wrs_of ht a h.1, wrs_of ht b h.2]
  | .block _ a, h => wrs_of ht a (by simpa [wr] using h)
  | .loop a, h => wrs_of ht a (by simpa [wr] using h)
  | .skip, _ => rfl
  | .exit _, _ => rfl
  | .label _, _ => rfl
  | .goto _, _ => rfl
  | .ret, _ => rfl
  | .rangeFunc .., h => by simp [wr] at h
  | .scope _, h => by simp [wr] at h
  | .refuse _, h => by simp [wr] at h
/-- g on the slots of D, f elsewhere. -/
def mix (D : List (Nat × Nat)) (f g : Fr) : Fr := fun t => bif memR D t then g t else f t
theorem mix_of {D : List (Nat × Nat)} {f g : Fr} (h : ∀ t, memR D t = false → g t = f t) : mix D f g = g := by
  funext t; unfold mix; cases e : memR D t with
  | false => exact (h t e).symm
  | true => rfl
/-- Slots with known values. -/
def updS (S : List (Nat × Value)) (f : Fr) : Fr := match S with
  | [] => f
  | (t, v) :: S => upd (updS S f) t v
def Slots (f : Fr) : List (Nat × Value) → Prop
  | [] => True
  | (t, v) :: S => f t = v ∧ Slots f S
theorem updS_self {f : Fr} : ∀ {S : List (Nat × Value)}, Slots f S → updS S f = f
  | [], _ => rfl
  | (t, v) :: S, h => by
    funext s
    simp only [updS, updS_self h.2]
    by_cases e : s = t
    · subst e; rw [upd_same]; exact h.1.symm
    · exact upd_ne _ _ e

/-! ### Code -/
/-- From frame f in world w the code c comes to an exit at which Q holds. -/
def W (P : Program) (n : Nat) (c : Code) (Q : Exit → Fr → World → Prop) (f : Fr) (w : World) : Prop :=
  ∀ a, Rel n a f → c.wp P (fun e a' w' => ∃ f', Rel n a' f' ∧ (∀ t, wrs c t = false → f' t = f t) ∧ Q e f' w') a w

def thn (K : Fr → World → Prop) (Q : Exit → Fr → World → Prop) : Exit → Fr → World → Prop
  | .normal, f, w => K f w
  | e, f, w => Q e f w
def blk (id : Nat) (Q : Exit → Fr → World → Prop) : Exit → Fr → World → Prop
  | .exit i, f, w => bif Nat.beq i id then Q .normal f w else Q (.exit i) f w
  | e, f, w => Q e f w

section
variable {P : Program} {n : Nat} {Q : Exit → Fr → World → Prop} {f : Fr} {w : World}

theorem W.mono {c : Code} {Q' : Exit → Fr → World → Prop} (h : W P n c Q f w) (hq : ∀ e f w, Q e f w → Q' e f w) : W P n c Q' f w :=
  fun a ha => wp_mono (h a ha) fun _ _ _ ⟨f', h1, h2, h3⟩ => ⟨f', h1, h2, hq _ _ _ h3⟩
theorem W.keeps {c : Code} (h : W P n c Q f w) : W P n c (fun e f' w' => (∀ t, wrs c t = false → f' t = f t) ∧ Q e f' w') f w :=
  fun a ha => wp_mono (h a ha) fun _ _ _ ⟨f', h1, h2, h3⟩ => ⟨f', h1, h2, h2, h3⟩
theorem W_skip (h : Q .normal f w) : W P n .skip Q f w := fun _ ha => wp_skip ⟨f, ha, fun _ _ => rfl, h⟩
theorem W_label {l : Nat} (h : Q .normal f w) : W P n (.label l) Q f w := fun _ ha => wp_label ⟨f, ha, fun _ _ => rfl, h⟩
theorem W_exit {i : Nat} (h : Q (.exit i) f w) : W P n (.exit i) Q f w := fun _ ha => wp_exit ⟨f, ha, fun _ _ => rfl, h⟩
theorem W_ret (h : Q .ret f w) : W P n .ret Q f w := fun _ ha => wp_ret ⟨f, ha, fun _ _ => rfl, h⟩

theorem W_seq {x y : Code} (h : W P n x (thn (fun f w => W P n y Q f w) Q) f w) : W P n (.seq x y) Q f w := by
  intro a ha
  refine wp_seq (wp_mono (h a ha) ?_)
  rintro e a' w' ⟨f', h1, h2, h3⟩
  have k1 : ∀ t, wrs (.seq x y) t = false → f' t = f t := fun t ht => h2 t (by simp only [wrs, Bool.or_eq_false_iff] at ht; exact ht.1)
  cases e with
  | normal =>
    refine wp_mono (h3 a' h1) fun _ _ _ ⟨f'', g1, g2, g3⟩ => ⟨f'', g1, fun t ht => (g2 t ?_).trans (k1 t ht), g3⟩
    simp only [wrs, Bool.or_eq_false_iff] at ht; exact ht.2
  | exit id => exact ⟨f', h1, k1, h3⟩
  | goto l => exact ⟨f', h1, k1, h3⟩
  | ret => exact ⟨f', h1, k1, h3⟩
  | panic ch => exact ⟨f', h1, k1, h3⟩
  | outgrown => exact ⟨f', h1, k1, h3⟩

/-- A cut between two pieces: what is known of the slots S x, and I x of the world. -/
theorem W_cut {α : Type} {x y : Code} (D : List (Nat × Nat)) (S : α → List (Nat × Value)) (I : α → World → Prop) (hD : wr D x = true)
    (h1 : W P n x (thn (fun f' w' => ∃ z, Slots f' (S z) ∧ I z w') Q) f w)
    (h2 : ∀ z g w', I z w' → W P n y Q (updS (S z) (mix D f g)) w') : W P n (.seq x y) Q f w := by
  refine W_seq (h1.keeps.mono ?_)
  rintro e f' w' ⟨hk, hq⟩
  cases e with
  | normal =>
    obtain ⟨z, hs, hi⟩ := hq
    have h3 := h2 z f' w' hi
    rw [mix_of (fun t ht => hk t (wrs_of ht x hD)), updS_self hs] at h3
    exact h3
  | exit id => exact hq
  | goto l => exact hq
  | ret => exact hq
  | panic ch => exact hq
  | outgrown => exact hq

theorem W_cond {c : Operand} {x y : Code} {t : Bool} (hc : ev f c = .bool t) (ht : t = true → W P n x Q f w) (hf : t = false → W P n y Q f w) :
    W P n (.cond c x y) Q f w := by
  intro a ha
  have hc' : a.eval c = .bool t := by rw [ha.eval]; exact hc
  refine wp_cond_split hc' (fun e => wp_mono (ht e a ha) ?_) (fun e => wp_mono (hf e a ha) ?_) <;>
    (rintro e a' w' ⟨f', h1, h2, h3⟩
     refine ⟨f', h1, fun t ht => h2 t ?_, h3⟩
     simp only [wrs, Bool.or_eq_false_iff] at ht
     first | exact ht.1 | exact ht.2)
theorem W_if {c : Operand} {x y : Code} {p : Prop} [Decidable p] (hc : ev f c = .bool (decide p)) (ht : p → W P n x Q f w) (hf : ¬ p → W P n y Q f w) :
    W P n (.cond c x y) Q f w :=
  W_cond hc (fun e => ht (of_decide_eq_true e)) (fun e => hf (of_decide_eq_false e))
theorem W_ifn {c : Operand} {x y : Code} {p : Prop} [Decidable p] (hc : ev f c = .bool (decide p)) (hf : ¬ p → W P n y Q f w) (ht : p → W P n x Q f w) :
    W P n (.cond c x y) Q f w := W_if hc ht hf
theorem W_true {c : Operand} {x y : Code} (hc : ev f c = .bool true) (h : W P n x Q f w) : W P n (.cond c x y) Q f w := W_cond hc (fun _ => h) (fun e => by cases e)
theorem W_false {c : Operand} {x y : Code} (hc : ev f c = .bool false) (h : W P n y Q f w) : W P n (.cond c x y) Q f w := W_cond hc (fun e => by cases e) (fun _ => h)

theorem W_block {id : Nat} {c : Code} (h : W P n c (blk id Q) f w) : W P n (.block id c) Q f w := by
  intro a ha
  refine wp_block (wp_mono (h a ha) ?_)
  rintro e a' w' ⟨f', h1, h2, h3⟩
  have k1 : ∀ t, wrs (.block id c) t = false → f' t = f t := fun t ht => h2 t (by simpa [wrs] using ht)
  cases e with
  | exit i =>
    simp only [Exit.inBlock]
    simp only [blk] at h3
    by_cases hi : i = id
    · subst hi
      simp only [Nat.beq_refl, cond_true] at h3
      simp only [if_true]
      exact ⟨f', h1, k1, h3⟩
    · have hb : Nat.beq i id = false := by
        cases e : Nat.beq i id with
        | false => rfl
        | true => exact absurd (Nat.eq_of_beq_eq_true e) hi
      rw [hb] at h3
      rw [if_neg hi]
      exact ⟨f', h1, k1, h3⟩
  | normal => exact ⟨f', h1, k1, h3⟩
  | goto l => exact ⟨f', h1, k1, h3⟩
  | ret => exact ⟨f', h1, k1, h3⟩
  | panic ch => exact ⟨f', h1, k1, h3⟩
  | outgrown => exact ⟨f', h1, k1, h3⟩

/-- A loop: x the state of the round's head (its slots S x, I x of the world), going down by m. -/
theorem W_loop {α : Type} {c : Code} (D : List (Nat × Nat)) (S : α → List (Nat × Value)) (I : α → World → Prop) (m : α → Nat) (hD : wr D c = true) (z : α)
    (h0 : Slots f (S z)) (hI : I z w)
    (round : ∀ x g w', I x w' → W P n c (thn (fun f' w'' => ∃ x', m x' < m x ∧ Slots f' (S x') ∧ I x' w'') Q) (updS (S x) (mix D f g)) w') : W P n (.loop c) Q f w := by
  intro a ha
  refine wp_loop_ghost (fun (x : α) a' w' => ∃ f', Rel n a' f' ∧ (∀ t, wrs c t = false → f' t = f t) ∧ Slots f' (S x) ∧ I x w') m z ⟨f, ha, fun _ _ => rfl, h0, hI⟩ ?_
  rintro x a' w' ⟨f', h1, h2, h3, h4⟩
  have h5 := round x f' w' h4
  rw [mix_of (fun t ht => h2 t (wrs_of ht c hD)), updS_self h3] at h5
  refine wp_mono (h5 a' h1) ?_
  rintro e a'' w'' ⟨f'', g1, g2, g3⟩
  have k1 : ∀ t, wrs c t = false → f'' t = f t := fun t ht => (g2 t ht).trans (h2 t ht)
  have k2 : ∀ t, wrs (.loop c) t = false → f'' t = f t := fun t ht => k1 t (by simpa [wrs] using ht)
  cases e with
  | normal => obtain ⟨x', hm, hs, hi⟩ := g3; exact ⟨x', hm, f'', g1, k1, hs, hi⟩
  | exit id => exact ⟨f'', g1, k2, g3⟩
  | goto l => exact ⟨f'', g1, k2, g3⟩
  | ret => exact ⟨f'', g1, k2, g3⟩
  | panic ch => exact ⟨f'', g1, k2, g3⟩
  | outgrown => exact ⟨f'', g1, k2, g3⟩
where
  wp_loop_ghost {α : Type} {P : Program} {c : Code} {Q : Exit → Act → World → Prop} {a : Act} {w : World} (J : α → Act → World → Prop) (m : α → Nat) (z : α) (h₀ : J z a w)
      (round : ∀ x a w, J x a w → c.wp P (Exit.then (fun a' w' => ∃ x', m x' < m x ∧ J x' a' w') Q) a w) : (Code.loop c).wp P Q a w := by
    intro b k cs
    have key : ∀ i x a w, m x = i → J x a w →
        ∃ e a' w', Q e a' w' ∧ Arrives P (lone (b.at a (.code c :: .inLoop c :: k)) cs w) b k cs e a' w' := by
      intro i
      induction i using Nat.strongRecOn with
      | _ i ih =>
        intro x a w hx hJ
        obtain ⟨e, a₁, w₁, hq, harr⟩ := round x a w hJ b (.inLoop c :: k) cs
        cases e with
        | normal =>
          obtain ⟨x', hlt, hJ'⟩ := hq
          obtain ⟨e₂, a₂, w₂, hq₂, harr₂⟩ := ih (m x') (hx ▸ hlt) x' a₁ w₁ rfl hJ'
          exact ⟨e₂, a₂, w₂, hq₂, .of_steps (Steps.trans harr (.one step_inLoop)) harr₂⟩
        | exit id => exact ⟨_, a₁, w₁, hq, .pass (x := .inLoop c) rfl (fun _ _ => .inl (by simp)) harr⟩
        | goto l => exact ⟨_, a₁, w₁, hq, .pass (x := .inLoop c) rfl (fun _ _ => .inl (by simp)) harr⟩
        | ret => exact ⟨_, a₁, w₁, hq, .pass (x := .inLoop c) rfl (fun _ _ => .inl (by simp)) harr⟩
        | panic ch => exact ⟨_, a₁, w₁, hq, .pass (x := .inLoop c) rfl (fun _ _ => .inl (by simp)) harr⟩
        | outgrown => exact ⟨_, a₁, w₁, hq, .pass (x := .inLoop c) rfl (fun _ _ => .inl (by simp)) harr⟩
    obtain ⟨e, a', w', hq, harr⟩ := key _ z a w rfl h₀
    exact ⟨e, a', w', hq, .of_steps (.one step_loop) harr⟩
end

/-! ### Operations -/
/-- What is asked once an operation has been run. -/
def upF (P : Program) (dst : Option Nat) (f : Fr) (K : Fr → World → Prop) : Result Next → Prop
  | .ok (.value v) w' => K (putF f dst v) w'
  | .ok .skip w' => K (putF f dst undef) w'
  | .ok (.enter g args) w' => Calls P g args w' fun e w'' => match e with | .returned v => K (putF f dst v) w'' | _ => False
  | _ => False
def XO (P : Program) (o : Oper) (f : Fr) (w : World) (K : Fr → World → Prop) : Prop := upF P o.dst f K ((execOp (ev f) o).run P w)
def gdF (ops : List Oper) (f : Fr) (o : Oper) : Bool := match o.guard with
  | none => true
  | some (j, want) => match (ops[j]?).bind (·.dst) with
    | some d => (match f d with | .bool b => bif want then b else !b | _ => false)
    | none => false
def XL (P : Program) (ops : List Oper) (K : Fr → World → Prop) : List Oper → Fr → World → Prop
  | [], f, w => K f w
  | o :: l, f, w => bif gdF ops f o then XO P o f w (XL P ops K l) else XL P ops K l (putF f o.dst undef) w

theorem wanted_of {n : Nat} {l : List Oper} {a : Act} {f : Fr} (h : Rel n a f) (hn : ∀ o ∈ l, ∀ d, o.dst = some d → d < n) (o : Oper) : Region.wanted o (yielded l.toArray a.tmps) = gdF l f o := by
  unfold Region.wanted gdF
  cases o.guard with
  | none => rfl
  | some p =>
    obtain ⟨j, want⟩ := p
    simp only [yielded, List.getElem?_toArray]
    cases hj : (l[j]?) with
    | none => simp
    | some o' =>
      cases hd : o'.dst with
      | none => simp [hd]
      | some d =>
        have hlt : d < a.tmps.size := by rw [h.size]; exact hn o' (List.mem_of_getElem? hj) d hd
        have hg := h.get d
        simp only [Option.bind_some, hd, Array.getElem?_eq_getElem hlt]
        simp [hlt] at hg
        rw [hg]
        cases f d <;> simp
        cases want <;> simp

theorem XO_wp {P : Program} {n : Nat} {o : Oper} {a : Act} {f : Fr} {w : World} {K : Fr → World → Prop} {K' : Act → World → Prop} {Q : Exit → Act → World → Prop} (h : Rel n a f)
    (hK : ∀ v w', K (putF f o.dst v) w' → K' (a.put o.dst v) w') (hx : XO P o f w K) : o.wp P a w K' Q := by
  unfold XO at hx
  unfold Oper.wp
  rw [h.eval]
  generalize (execOp (ev f) o).run P w = r at hx
  cases r with
  | ok nx w' =>
    cases nx <;> simp only [upF] at hx <;> simp only [Oper.upon]
    case value v => exact hK v w' hx
    case skip => exact hK _ w' hx
    case enter g args =>
      refine Calls.mono hx fun e w'' he => ?_
      cases e with
      | returned v => exact hK v w'' he
      | panicked c => exact he.elim
      | outgrown => exact he.elim
  | halt x w' => exact hx.elim

theorem XO.mono {P : Program} {o : Oper} {f : Fr} {w : World} {K K' : Fr → World → Prop} (hK : ∀ v w', K (putF f o.dst v) w' → K' (putF f o.dst v) w') (hx : XO P o f w K) : XO P o f w K' := by
  unfold XO at *
  generalize (execOp (ev f) o).run P w = r at *
  cases r with
  | ok nx w' =>
    cases nx <;> simp only [upF] at hx ⊢
    case value v => exact hK v w' hx
    case skip => exact hK _ w' hx
    case enter g args =>
      refine Calls.mono hx fun e w'' he => ?_
      cases e with
      | returned v => exact hK v w'' he
      | panicked c => exact he.elim
      | outgrown => exact he.elim
  | halt x w' => exact hx.elim

def dstOk (n : Nat) (l : List Oper) : Bool := l.all fun o => match o.dst with | some d => Nat.blt d n | none => true
theorem dstOk_spec {n : Nat} {l : List Oper} (h : dstOk n l = true) : ∀ o ∈ l, ∀ d, o.dst = some d → d < n := by
  intro o ho d hd
  have := List.all_eq_true.1 h o ho
  simp only [hd, Nat.blt_eq] at this
  exact this
theorem wrsOps_mem {l : List Oper} {o : Oper} (ho : o ∈ l) {t : Nat} (h : wrsOps l t = false) : o.dst ≠ some t := by
  intro e
  have := List.any_eq_false.1 h o ho
  simp [e] at this
theorem putF_keep {f : Fr} {dst : Option Nat} {t : Nat} (h : dst ≠ some t) (v : Value) : putF f dst v t = f t := by
  cases dst with
  | none => rfl
  | some d => exact upd_ne _ _ (fun e => h (by rw [e]))

section
variable {P : Program} {n : Nat} {Q : Exit → Fr → World → Prop} {f : Fr} {w : World}
theorem XL_wp {all : List Oper} (hn : ∀ o ∈ all, ∀ d, o.dst = some d → d < n) (f0 : Fr) :
    ∀ (l : List Oper) (k : Nat) (a : Act) (f : Fr) (w : World), (∀ j, l[j]? = all[k + j]?) → Rel n a f → (∀ t, wrsOps all t = false → f t = f0 t) →
      XL P all (fun f w => Q .normal f w) l f w →
      wpOps P all.toArray (fun e a' w' => ∃ f', Rel n a' f' ∧ (∀ t, wrsOps all t = false → f' t = f0 t) ∧ Q e f' w') (List.range' k l.length) a w
  | [], _, a, f, w, _, hr, hk, h => ⟨f, hr, hk, h⟩
  | o :: l, k, a, f, w, hl, hr, hk, h => by
    have h0 : all[k]? = some o := by simpa using (hl 0).symm
    have hmem : o ∈ all := List.mem_of_getElem? h0
    have ih := fun a f w => XL_wp hn f0 l (k + 1) a f w (fun j => by have := hl (j + 1); simpa [Nat.add_assoc, Nat.add_comm 1 j] using this)
    have next : ∀ v, (∀ t, wrsOps all t = false → putF f o.dst v t = f0 t) := fun v t ht => (putF_keep (wrsOps_mem hmem ht) v).trans (hk t ht)
    simp only [List.length_cons, List.range'_succ, wpOps, List.getElem?_toArray, h0]
    rw [wanted_of hr hn o]
    simp only [XL] at h
    cases hg : gdF all f o with
    | false =>
      rw [hg] at h
      exact ih _ _ _ (hr.put (hn o hmem) _) (next _) h
    | true =>
      rw [hg] at h
      exact .inl (XO_wp hr (fun v w' hx => ih _ _ _ (hr.put (hn o hmem) v) (next v) hx) h)

/-- A region in the order of the text. -/
theorem W_region {id : Nat} {l : List Oper} (hn : dstOk n l = true) (h : XL P l (fun f w => Q .normal f w) l f w) : W P n (.region id l.toArray false) Q f w := by
  intro a ha
  refine wp_region ?_
  have := XL_wp (dstOk_spec hn) f l 0 a f w (by simp) ha (fun _ _ => rfl) h
  simpa [List.range_eq_range', wrs] using this
end
/-! ### A region that draws its order -/
/-- An operation that reads memory. -/
def rdB (o : Oper) : Bool := match o.op with
  | .move _ | .assign _ | .pick .. | .alloc _ | .box .. | .build .. | .buildSlice .. | .store .. | .nilCheck _ | .binOp .. | .unOp .. | .makeFunc .. | .makeMap .. | .makeSlice .. | .fieldAddr .. | .field .. | .indexAddr .. | .index .. | .extract .. | .insert .. | .mapUpdate .. => false
  | .slice .. => false
  | .call ⟨.builtin .append, _, _⟩ => false
  | .call ⟨.builtin .min, _, _⟩ => false
  | .call ⟨.builtin .max, _, _⟩ => false
  | .call ⟨.value _, _, _⟩ => false
  | _ => true
/-- Every operation that reads comes ahead of operation j. -/
def lateB (all : List Oper) (j : Nat) : Bool := match all[j]? with
  | none => false
  | some o => (List.range all.length).all fun i => match all[i]? with
    | none => true
    | some oi => !rdB oi || i == j || o.after.any fun e => Region.binds .any e && e.on == i
/-- Whatever order is picked from here on; every world met while an operation that reads is still to come is of the class C. -/
def XA (P : Program) (all : List Oper) (C : World → Prop) (K : Fr → World → Prop) : Nat → Array Bool → Fr → World → Prop
  | 0, ls, f, w => Region.ready .any all.toArray ls = [] ∧ K f w
  | k + 1, ls, f, w => (Region.ready .any all.toArray ls = [] → K f w) ∧
    ∀ i ∈ Region.ready .any all.toArray ls, ∀ o, all[i]? = some o →
      bif gdF all f o then XO P o f w (fun f' w' => (lateB all i = true ∨ w' = w ∨ C w') ∧ XA P all C K k (ls.setIfInBounds i true) f' w') else XA P all C K k (ls.setIfInBounds i true) (putF f o.dst undef) w

section
variable {P : Program} {n : Nat} {f : Fr} {w : World} {all : List Oper} {C : World → Prop} {K : Fr → World → Prop}

theorem XA_wp {Q : Exit → Act → World → Prop} (hn : ∀ o ∈ all, ∀ d, o.dst = some d → d < n) (f0 : Fr)
    (hQ : ∀ a f w, Rel n a f → (∀ t, wrsOps all t = false → f t = f0 t) → K f w → Q .normal a w) :
    ∀ (k : Nat) (ls : Array Bool) (a : Act) (f : Fr) (w : World), Rel n a f → (∀ t, wrsOps all t = false → f t = f0 t) → XA P all C K k ls f w → wpAny P .any all.toArray Q k ls a w
  | 0, _, a, f, w, hr, hk, h => ⟨h.1, hQ a f w hr hk h.2⟩
  | k + 1, ls, a, f, w, hr, hk, h => by
    refine ⟨fun h0 => hQ a f w hr hk (h.1 h0), fun i hi => ?_⟩
    unfold wpOp
    simp only [List.getElem?_toArray]
    cases ho : all[i]? with
    | none =>
      exfalso
      obtain ⟨_, o, hoo, _⟩ := mem_ready.1 hi
      simp [ho] at hoo
    | some o =>
      have hmem : o ∈ all := List.mem_of_getElem? ho
      have h1 := h.2 i hi o ho
      have next : ∀ v, (∀ t, wrsOps all t = false → putF f o.dst v t = f0 t) := fun v t ht => (putF_keep (wrsOps_mem hmem ht) v).trans (hk t ht)
      simp only []
      rw [wanted_of hr hn o]
      cases hg : gdF all f o with
      | false =>
        rw [hg] at h1
        exact XA_wp hn f0 hQ k _ _ _ _ (hr.put (hn o hmem) _) (next _) h1
      | true =>
        rw [hg] at h1
        exact .inl (XO_wp hr (fun v w' hx => XA_wp hn f0 hQ k _ _ _ _ (hr.put (hn o hmem) v) (next v) hx.2) h1)

theorem putF_comm (f : Fr) {x y : Option Nat} (v u : Value) (h : ∀ d, x = some d → y ≠ some d) : putF (putF f x v) y u = putF (putF f y u) x v := by
  cases x with
  | none => rfl
  | some d =>
    cases y with
    | none => rfl
    | some e =>
      have hne : d ≠ e := fun he => h d rfl (he ▸ rfl)
      funext t
      simp only [putF]
      by_cases h1 : t = d
      · subst h1; rw [upd_ne _ _ hne, upd_same, upd_same]
      · by_cases h2 : t = e
        · subst h2; rw [upd_same, upd_ne _ _ h1, upd_same]
        · rw [upd_ne _ _ h2, upd_ne _ _ h1, upd_ne _ _ h1, upd_ne _ _ h2]
theorem ev_putF {f : Fr} {dst : Option Nat} {v : Value} {x : Operand} (h : ∀ d, dst = some d → x ≠ .tmp d) : ev (putF f dst v) x = ev f x := by
  cases dst with
  | none => rfl
  | some d =>
    cases x with
    | tmp t => exact upd_ne _ _ (fun e => h d rfl (by rw [e]))
    | _ => rfl
theorem execOp_putF {o : Oper} (hs : ∀ cs b, o.op ≠ .select cs b) (f : Fr) (dst : Option Nat) (v : Value) (h : ∀ d, dst = some d → d ∉ o.looksAt all.toArray) :
    execOp (ev (putF f dst v)) o = execOp (ev f) o :=
  execOp_congr o hs fun x hx => ev_putF fun d hd hxd => h d hd (by
    subst hxd
    exact List.mem_append_left _ (List.mem_filterMap.2 ⟨.tmp d, by simpa using hx, rfl⟩))
theorem gdF_putF (o : Oper) (f : Fr) (dst : Option Nat) (v : Value) (h : ∀ d, dst = some d → d ∉ o.looksAt all.toArray) : gdF all (putF f dst v) o = gdF all f o := by
  unfold gdF
  cases hg : o.guard with
  | none => rfl
  | some gw =>
    obtain ⟨g, want⟩ := gw
    simp only []
    cases ht : (all[g]?).bind (·.dst) with
    | none => rfl
    | some t =>
      have hne : dst ≠ some t := fun e => h t e (by simp [Oper.looksAt, hg, ht])
      simp only []
      rw [putF_keep hne]

/-- In every world of the class D the operation yields v and leaves the world alone (or it is not wanted). -/
def Quiet (P : Program) (all : List Oper) (D : World → Prop) (o : Oper) (v : Value) (f : Fr) : Prop :=
  (gdF all f o = true ∧ ∀ w, D w → (execOp (ev f) o).run P w = .ok (.value v) w) ∨ (gdF all f o = false ∧ v = undef)

theorem late_no {i j : Nat} {oi oj : Oper} (hi : all[i]? = some oi) (hj : all[j]? = some oj) (hr : rdB oi = true) (hne : j ≠ i) (hl : lateB all j = true) (hnot : ∀ e ∈ oj.after, Region.binds .any e = true → e.on ≠ i) : False := by
  simp only [lateB, hj, List.all_eq_true, List.mem_range] at hl
  have hlt : i < all.length := (List.getElem?_eq_some_iff.1 hi).1
  have h1 := hl i hlt
  simp only [hi, hr, Bool.not_true, Bool.false_or, Bool.or_eq_true, beq_iff_eq, Array.any_eq_true', Bool.and_eq_true] at h1
  rcases h1 with h1 | ⟨e, he, hb, ho⟩
  · exact hne h1.symm
  · exact hnot e he hb ho

/-- The reading operation oi, or one that reads nothing, may be taken first. -/
theorem XA_first {i : Nat} {oi : Oper} {v : Value} {D : World → Prop} (hi : all[i]? = some oi) (hD : ∀ w, (rdB oi = true → C w) → D w) (hsel : ∀ (j : Nat) (o : Oper) cs b, all[j]? = some o → o.op ≠ .select cs b) :
    ∀ (fuel : Nat) (ls : Array Bool) (f : Fr) (w : World), (rdB oi = true → C w) →
      (∀ j oj, all[j]? = some oj → j ≠ i → ls.getD j true = false → (∀ e ∈ oj.after, Region.binds .any e = true → e.on ≠ i) → oi.apart all.toArray oj = true) →
      i ∈ Region.ready .any all.toArray ls → Quiet P all D oi v f →
      XA P all C K fuel (ls.setIfInBounds i true) (putF f oi.dst v) w → XA P all C K (fuel + 1) ls f w := by
  have here : ∀ (fuel : Nat) (ls : Array Bool) (f : Fr) (w : World), (rdB oi = true → C w) → Quiet P all D oi v f → XA P all C K fuel (ls.setIfInBounds i true) (putF f oi.dst v) w → ∀ o, all[i]? = some o →
      bif gdF all f o then XO P o f w (fun f' w' => (lateB all i = true ∨ w' = w ∨ C w') ∧ XA P all C K fuel (ls.setIfInBounds i true) f' w') else XA P all C K fuel (ls.setIfInBounds i true) (putF f o.dst undef) w := by
    intro fuel ls f w hC hy H o ho
    rw [hi] at ho
    cases ho
    rcases hy with ⟨hg, hv⟩ | ⟨hg, rfl⟩
    · rw [hg]; simp only [cond_true, XO, hv w (hD w hC), upF]; exact ⟨.inr (.inl trivial), H⟩
    · rw [hg]; exact H
  intro fuel
  induction fuel with
  | zero =>
    intro ls f w hC _ hr hy H
    refine ⟨fun h => (by rw [h] at hr; cases hr), fun j hj => ?_⟩
    by_cases hji : j = i
    · subst hji; exact here _ _ _ _ hC hy H
    · have := ready_mono hj hji
      rw [H.1] at this
      cases this
  | succ fuel ih =>
    intro ls f w hC hfree hr hy H
    refine ⟨fun h => (by rw [h] at hr; cases hr), fun j hj => ?_⟩
    by_cases hji : j = i
    · subst hji; exact here _ _ _ _ hC hy H
    · intro oj hoj
      have h1 := H.2 j (ready_mono hj hji) oj hoj
      obtain ⟨hjun, oj', hoj', hall⟩ := mem_ready.1 hj
      have hoj'' : oj' = oj := by rw [List.getElem?_toArray, hoj] at hoj'; exact (Option.some.inj hoj').symm
      subst hoj''
      have hnot : ∀ e ∈ oj'.after, Region.binds .any e = true → e.on ≠ i := fun e he hb heq => by
        have h1 := hall e he hb
        have h0 := (mem_ready.1 hr).1
        rw [heq] at h1
        rcases Nat.lt_or_ge i ls.size with h' | h'
        · simp [h'] at h0 h1; rw [h0] at h1; cases h1
        · simp [Array.getElem?_eq_none h'] at h1
      obtain ⟨a1, a2, a3⟩ := Oper.apart_spec (hfree j oj' hoj hji hjun hnot)
      have hfree' : ∀ k ok, all[k]? = some ok → k ≠ i → (ls.setIfInBounds j true).getD k true = false →
          (∀ e ∈ ok.after, Region.binds .any e = true → e.on ≠ i) → oi.apart all.toArray ok = true := fun k ok hk hki hun hno => by
        refine hfree k ok hk hki ?_ hno
        by_cases hjk : j = k
        · subst hjk; exact hjun
        · rw [getD_set_ne true hjk] at hun; exact hun
      have keep : ∀ u, Quiet P all D oi v (putF f oj'.dst u) := fun u => by
        unfold Quiet at *
        rw [gdF_putF oi f oj'.dst u a3, execOp_putF (all := all) (hsel i oi · · hi) f oj'.dst u a3]
        exact hy
      have dOf : ∀ w', (lateB all j = true ∨ w' = w ∨ C w') → (rdB oi = true → C w') := fun w' hl hrd => by
        rcases hl with hl | rfl | hl
        · exact (late_no hi hoj hrd hji hl hnot).elim
        · exact hC hrd
        · exact hl
      have go : ∀ u w', (rdB oi = true → C w') → XA P all C K fuel ((ls.setIfInBounds i true).setIfInBounds j true) (putF (putF f oi.dst v) oj'.dst u) w' →
          XA P all C K (fuel + 1) (ls.setIfInBounds j true) (putF f oj'.dst u) w' := fun u w' hC' hx => by
        refine ih _ _ _ hC' hfree' (ready_mono hr (Ne.symm hji)) (keep u) ?_
        rw [Array.setIfInBounds_comm _ _ hji, ← putF_comm f v u a2]
        exact hx
      rw [gdF_putF oj' f oi.dst v a1] at h1
      cases hg : gdF all f oj' with
      | false => rw [hg] at h1; exact go _ _ hC h1
      | true =>
        rw [hg] at h1
        simp only [cond_true] at h1 ⊢
        unfold XO at *
        rw [execOp_putF (all := all) (hsel j oj' · · hoj) f oi.dst v a1] at h1
        generalize (execOp (ev f) oj').run P w = r at *
        cases r with
        | ok nx w' =>
          cases nx <;> simp only [upF] at h1 ⊢
          case value u => exact ⟨h1.1, go _ _ (dOf _ h1.1) h1.2⟩
          case skip => exact ⟨h1.1, go _ _ (dOf _ h1.1) h1.2⟩
          case enter g args =>
            refine Calls.mono h1 fun e w'' he => ?_
            cases e with
            | returned u => exact ⟨he.1, go _ _ (dOf _ he.1) he.2⟩
            | panicked c => exact he.elim
            | outgrown => exact he.elim
        | halt x w' => exact h1.elim

/-- A plan: operations in order; true: quiet, taken ahead; false: the only one that may come up. -/
def planGo (all : Array Oper) : List (Nat × Bool) → Array Bool → Bool
  | [], ls => (Region.ready .any all ls).isEmpty
  | (i, true) :: pl, ls => (Region.ready .any all ls).contains i && Region.free .any all ls i && planGo all pl (ls.setIfInBounds i true)
  | (i, false) :: pl, ls => Region.ready .any all ls == [i] && planGo all pl (ls.setIfInBounds i true)
def planOk (all : List Oper) (pl : List (Nat × Bool)) : Bool := Region.noSelect all.toArray && pl.length == all.length && planGo all.toArray pl (Array.replicate all.length false)
def opAt : List Oper → Nat → Oper
  | [], _ => default
  | o :: _, 0 => o
  | _ :: l, i + 1 => opAt l i
theorem opAt_some {l : List Oper} {i : Nat} {o : Oper} (h : l[i]? = some o) : opAt l i = o := by
  induction l generalizing i with
  | nil => simp at h
  | cons a l ih => cases i with
    | zero => simp at h; subst h; rfl
    | succ i => exact ih (by simpa using h)
def XP (P : Program) (all : List Oper) (C : World → Prop) (K : Fr → World → Prop) : List (Nat × Bool) → Fr → World → Prop
  | [], f, w => K f w
  | (i, q) :: pl, f, w => bif gdF all f (opAt all i) then
        (bif q then ∃ v, (∀ w', (rdB (opAt all i) = true → C w') → (execOp (ev f) (opAt all i)).run P w' = .ok (.value v) w') ∧ XP P all C K pl (putF f (opAt all i).dst v) w
         else XO P (opAt all i) f w fun f' w' => (lateB all i = true ∨ w' = w ∨ C w') ∧ XP P all C K pl f' w')
      else XP P all C K pl (putF f (opAt all i).dst undef) w
/-- All that reads has come up. -/
def allRd (all : List Oper) (ls : Array Bool) : Prop := ∀ i o, all[i]? = some o → rdB o = true → ls.getD i false = true
theorem allRd.set {ls : Array Bool} (h : allRd all ls) (i : Nat) : allRd all (ls.setIfInBounds i true) := fun j o ho hr => getD_set_true (h j o ho hr)

theorem XA_of_plan (hs : Region.noSelect all.toArray = true) : ∀ (pl : List (Nat × Bool)) (ls : Array Bool) (f : Fr) (w : World), ls.size = all.length → (C w ∨ allRd all ls) → planGo all.toArray pl ls = true → XP P all C K pl f w →
    XA P all C K pl.length ls f w
  | [], ls, f, w, _, _, hp, h => ⟨by simpa [planGo] using hp, h⟩
  | (i, true) :: pl, ls, f, w, hsz, hC, hp, h => by
    simp only [planGo, Bool.and_eq_true] at hp
    obtain ⟨⟨hr, hf⟩, hp'⟩ := hp
    simp only [XP] at h
    have hri : i ∈ Region.ready .any all.toArray ls := by simpa using hr
    cases ho : all[i]? with
    | none =>
      exfalso
      obtain ⟨_, o, hoo, _⟩ := mem_ready.1 hri
      simp [ho] at hoo
    | some o =>
      rw [opAt_some ho] at h
      have hsel : ∀ (j : Nat) (o : Oper) cs b, all[j]? = some o → o.op ≠ .select cs b := fun j o cs b hj => Region.noSelect_spec hs j o cs b (by simpa using hj)
      have hfree := fun j oj hj => Region.free_spec (ops := all.toArray) (md := .any) (i := i) (oi := o) (listed := ls) (by simpa using ho) hf j oj (by simpa using hj)
      have hun := (mem_ready.1 hri).1
      have hCr : rdB o = true → C w := fun hrd => hC.resolve_right (fun hall => by
        have h1 := hall i o ho hrd
        have hlt : i < ls.size := by rw [hsz]; exact (List.getElem?_eq_some_iff.1 ho).1
        simp [hlt] at hun h1; rw [hun] at h1; cases h1)
      have hC' : C w ∨ allRd all (ls.setIfInBounds i true) := hC.imp id (fun h => h.set i)
      have hsz' : (ls.setIfInBounds i true).size = all.length := by simpa using hsz
      cases hg : gdF all f o with
      | false =>
        rw [hg] at h
        exact XA_first (v := undef) (D := fun w => rdB o = true → C w) ho (fun _ h => h) hsel pl.length ls f w hCr hfree hri (.inr ⟨hg, rfl⟩) (XA_of_plan hs pl _ _ _ hsz' hC' hp' h)
      | true =>
        rw [hg] at h
        simp only [cond_true] at h
        obtain ⟨v, hv, hx⟩ := h
        exact XA_first (v := v) (D := fun w => rdB o = true → C w) ho (fun _ h => h) hsel pl.length ls f w hCr hfree hri (.inl ⟨hg, hv⟩) (XA_of_plan hs pl _ _ _ hsz' hC' hp' hx)
  | (i, false) :: pl, ls, f, w, hsz, hC, hp, h => by
    simp only [planGo, Bool.and_eq_true, beq_iff_eq] at hp
    obtain ⟨hr, hp'⟩ := hp
    refine ⟨fun h0 => (by rw [h0] at hr; cases hr), ?_⟩
    have hri : i ∈ Region.ready .any all.toArray ls := by rw [hr]; simp
    rw [hr]
    intro j hj o ho
    have : j = i := by simpa using hj
    subst this
    have hsz' : (ls.setIfInBounds j true).size = all.length := by simpa using hsz
    simp only [XP, opAt_some ho] at h
    cases hg : gdF all f o with
    | false => rw [hg] at h; exact XA_of_plan hs pl _ _ _ hsz' (hC.imp id (fun h => h.set j)) hp' h
    | true =>
      rw [hg] at h
      simp only [cond_true, cond_false] at h ⊢
      refine h.mono fun v w' hx => ⟨hx.1, XA_of_plan hs pl _ _ _ hsz' ?_ hp' hx.2⟩
      rcases hx.1 with hl | rfl | hc
      · right
        intro k ok hk hrd
        by_cases hkj : k = j
        · subst hkj
          have hlt : k < ls.size := by rw [hsz]; exact (List.getElem?_eq_some_iff.1 hk).1
          simp [hlt]
        · simp only [lateB, ho, List.all_eq_true, List.mem_range] at hl
          have h1 := hl k (List.getElem?_eq_some_iff.1 hk).1
          simp only [hk, hrd, Bool.not_true, Bool.false_or, Bool.or_eq_true, beq_iff_eq, Array.any_eq_true', Bool.and_eq_true] at h1
          rcases h1 with h1 | ⟨e, he, hb, hon⟩
          · exact absurd h1 hkj
          · obtain ⟨_, o', ho', hall⟩ := mem_ready.1 hri
            have : o' = o := by rw [List.getElem?_toArray, ho] at ho'; exact (Option.some.inj ho').symm
            subst this
            have := hall e he hb
            rw [hon] at this
            exact getD_set_true this
      · exact hC.imp id (fun h => h.set j)
      · exact .inl hc

theorem W_draw {Q : Exit → Fr → World → Prop} {id : Nat} (C : World → Prop) (pl : List (Nat × Bool)) (hm : P.follows .mixedOrders = true) (hn : dstOk n all = true) (hp : planOk all pl = true)
    (hC : C { w with drawn := w.drawn + 1 }) (h : XP P all C (fun f w => Q .normal f w) pl f { w with drawn := w.drawn + 1 }) : W P n (.region id all.toArray true) Q f w := by
  intro a ha
  simp only [planOk, Bool.and_eq_true, beq_iff_eq] at hp
  obtain ⟨⟨hs, hl⟩, hp⟩ := hp
  refine wp_region_any hm ?_
  have h1 := XA_of_plan hs pl _ _ _ (by simp) (.inl hC) hp h
  rw [hl] at h1
  have h2 := XA_wp (n := n) (Q := fun e a' w' => ∃ f', Rel n a' f' ∧ (∀ t, wrsOps all t = false → f' t = f t) ∧ Q e f' w') (dstOk_spec hn) f
    (fun a f' w hr hk hq => ⟨f', hr, hk, hq⟩) _ _ a f _ ha (fun _ _ => rfl) h1
  simpa [wrs] using h2
/-- A drawn region by all orders that are left open (no plan). -/
theorem W_draw_any {Q : Exit → Fr → World → Prop} {id : Nat} (C : World → Prop) (hm : P.follows .mixedOrders = true) (hn : dstOk n all = true)
    (h : XA P all C (fun f w => Q .normal f w) all.length (Array.replicate all.length false) f { w with drawn := w.drawn + 1 }) : W P n (.region id all.toArray true) Q f w := by
  intro a ha
  refine wp_region_any hm ?_
  have h2 := XA_wp (n := n) (Q := fun e a' w' => ∃ f', Rel n a' f' ∧ (∀ t, wrsOps all t = false → f' t = f t) ∧ Q e f' w') (dstOk_spec hn) f
    (fun a f' w hr hk hq => ⟨f', hr, hk, hq⟩) _ _ a f _ ha (fun _ _ => rfl) h
  simpa [wrs] using h2
end
theorem XA_succ {P : Program} {all : List Oper} {C : World → Prop} {K : Fr → World → Prop} {k : Nat} {ls : Array Bool} {f : Fr} {w : World} (h0 : Region.ready .any all.toArray ls = [] → K f w)
    (h : ∀ i ∈ Region.ready .any all.toArray ls, ∀ o, all[i]? = some o →
      bif gdF all f o then XO P o f w (fun f' w' => (lateB all i = true ∨ w' = w ∨ C w') ∧ XA P all C K k (ls.setIfInBounds i true) f' w') else XA P all C K k (ls.setIfInBounds i true) (putF f o.dst undef) w) : XA P all C K (k + 1) ls f w := ⟨h0, h⟩
attribute [irreducible] W XL XP XO XA
end Go.Lg
