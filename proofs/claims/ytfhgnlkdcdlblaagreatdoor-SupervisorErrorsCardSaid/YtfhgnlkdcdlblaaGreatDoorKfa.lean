/- Merged out of 12 texts. -/
import Derived.Orders
import Derived.Below
import Derived.WalkKit
import Derived.Laws.AppendOwn
import Derived.Laws.Rows
import Derived.Laws.Tables
import Derived.Great.BuildSlice
import Derived.Deep.OwnRows
import Derived.MapKept
import Derived.Test.YtfhgnlkdcdlblaaGreatDoorProg
/- A small program logic over the kit's wp: frames as functions, regions as lists of operations, any order of a drawn region by a plan. No program in sight. -/
namespace Go.Lg
open Go.RowKit

/-! ### Frames -/
abbrev Fr := Nat → Value
def upd (f : Fr) (d : Nat) (v : Value) : Fr := fun t => bif Nat.beq t d then v else f t
def ev (f : Fr) : Operand → Value
  | .tmp t => f t
  | .const v => v
  | .global g => .pointer (some ⟨g, 0, none⟩)
  | .func g => .func (.func g) #[] #[]
def putF (f : Fr) : Option Nat → Value → Fr
  | some d, v => upd f d v
  | none, _ => f
structure Rel (n : Nat) (a : Act) (f : Fr) : Prop where
  size : a.tmps.size = n
  defers : a.defers = []
  get : ∀ t, a.tmps.getD t undef = f t

theorem upd_same (f : Fr) (d : Nat) (v : Value) : upd f d v d = v := by simp [upd]
theorem upd_ne (f : Fr) {d t : Nat} (v : Value) (h : t ≠ d) : upd f d v t = f t := by
  have : Nat.beq t d = false := by
    cases e : Nat.beq t d with
    | false => rfl
    | true => exact absurd (Nat.eq_of_beq_eq_true e) h
  simp [upd, this]

theorem Rel.eval {n : Nat} {a : Act} {f : Fr} (h : Rel n a f) : a.eval = ev f := by
  funext x; cases x with
  | tmp t => exact h.get t
  | _ => rfl

theorem Rel.put {n : Nat} {a : Act} {f : Fr} (h : Rel n a f) {dst : Option Nat} (hd : ∀ d, dst = some d → d < n) (v : Value) : Rel n (a.put dst v) (putF f dst v) := by
  cases dst with
  | none => exact h
  | some d =>
    have hlt : d < a.tmps.size := by rw [h.size]; exact hd d rfl
    refine ⟨by simp [Act.put, h.size], h.defers, fun t => ?_⟩
    by_cases e : t = d
    · subst e; rw [putF, upd_same]; simp [Act.put, hlt]
    · rw [putF, upd_ne _ _ e, ← h.get t]
      simp [Act.put, Array.getElem?_setIfInBounds_ne (Ne.symm e)]

/-! ### Which slots a piece of code writes -/
def wrsOps (l : List Oper) (t : Nat) : Bool := l.any fun o => match o.dst with | some d => Nat.beq d t | none => false
def wrs : Code → Nat → Bool
  | .region _ ops _, t => wrsOps ops.toList t
  | .seq a b, t => wrs a t || wrs b t
  | .cond _ a b, t => wrs a t || wrs b t
  | .block _ a, t => wrs a t
  | .loop a, t => wrs a t
  | .skip, _ | .exit _, _ | .label _, _ | .goto _, _ | .ret, _ => false
  | _, _ => true
def memR (D : List (Nat × Nat)) (t : Nat) : Bool := match D with
  | [] => false
  | (lo, hi) :: D => bif (Nat.ble lo t && Nat.ble t hi) then true else memR D t
def inD (D : List (Nat × Nat)) (d : Option Nat) : Bool := match d with | none => true | some d => memR D d
def wrOps (D : List (Nat × Nat)) (l : List Oper) : Bool := l.all fun o => inD D o.dst
/-- The code writes slots of D alone. -/
def wr (D : List (Nat × Nat)) : Code → Bool
  | .region _ ops _ => wrOps D ops.toList
  | .seq a b => wr D a && wr D b
  | .cond _ a b => wr D a && wr D b
  | .block _ a => wr D a
  | .loop a => wr D a
  | .skip | .exit _ | .label _ | .goto _ | .ret => true
  | _ => false
theorem wrsOps_of {D : List (Nat × Nat)} {l : List Oper} (h : wrOps D l = true) {t : Nat} (ht : memR D t = false) : wrsOps l t = false := by
  unfold wrOps at h; unfold wrsOps
  rw [List.any_eq_false]
  intro o ho
  have h1 := List.all_eq_true.1 h o ho
  cases hd : o.dst with
  | none => simp
  | some d =>
    rw [hd] at h1
    simp only [inD] at h1
    intro e
    have := Nat.eq_of_beq_eq_true e
    subst this
    rw [h1] at ht; cases ht
theorem wrs_of {D : List (Nat × Nat)} {t : Nat} (ht : memR D t = false) : ∀ c : Code, wr D c = true → wrs c t = false
  | .region _ ops _, h => wrsOps_of h ht
  | .seq a b, h => by simp only [wr, Bool.and_eq_true] at h; simp [wrs, wrs_of ht a h.1, wrs_of ht b h.2]
  | .cond _ a b, h => by simp only [wr, Bool.and_eq_true] at h; simp [wrs, wrs_of ht a h.1, wrs_of ht b h.2]
  | .block _ a, h => wrs_of ht a (by simpa [wr] using h)
  | .loop a, h => wrs_of ht a (by simpa [wr] using h)
  | .skip, _ => rfl
  | .exit _, _ => rfl
  | .label _, _ => rfl
  | .goto _, _ => rfl
  | .ret, _ => rfl
  | .rangeFunc .., h => by simp [wr] at h
  | .scope _, h => by simp [wr] at h
  | .refuse _, h => by simp [wr] at h
/-- g on the slots of D, f elsewhere. -/
def mix (D : List (Nat × Nat)) (f g : Fr) : Fr := fun t => bif memR D t then g t else f t
theorem mix_of {D : List (Nat × Nat)} {f g : Fr} (h : ∀ t, memR D t = false → g t = f t) : mix D f g = g := by
  funext t; unfold mix; cases e : memR D t with
  | false => exact (h t e).symm
  | true => rfl
/-- Slots with known values. -/
def updS (S : List (Nat × Value)) (f : Fr) : Fr := match S with
  | [] => f
  | (t, v) :: S => upd (updS S f) t v
def Slots (f : Fr) : List (Nat × Value) → Prop
  | [] => True
  | (t, v) :: S => f t = v ∧ Slots f S
theorem updS_self {f : Fr} : ∀ {S : List (Nat × Value)}, Slots f S → updS S f = f
  | [], _ => rfl
  | (t, v) :: S, h => by
    funext s
    simp only [updS, updS_self h.2]
    by_cases e : s = t
    · subst e; rw [upd_same]; exact h.1.symm
    · exact upd_ne _ _ e

/-! ### Code -/
/-- From frame f in world w the code c comes to an exit at which Q holds. -/
def W (P : Program) (n : Nat) (c : Code) (Q : Exit → Fr → World → Prop) (f : Fr) (w : World) : Prop :=
  ∀ a, Rel n a f → c.wp P (fun e a' w' => ∃ f', Rel n a' f' ∧ (∀ t, wrs c t = false → f' t = f t) ∧ Q e f' w') a w

def thn (K : Fr → World → Prop) (Q : Exit → Fr → World → Prop) : Exit → Fr → World → Prop
  | .normal, f, w => K f w
  | e, f, w => Q e f w
def blk (id : Nat) (Q : Exit → Fr → World → Prop) : Exit → Fr → World → Prop
  | .exit i, f, w => bif Nat.beq i id then Q .normal f w else Q (.exit i) f w
  | e, f, w => Q e f w

section
variable {P : Program} {n : Nat} {Q : Exit → Fr → World → Prop} {f : Fr} {w : World}

theorem W.mono {c : Code} {Q' : Exit → Fr → World → Prop} (h : W P n c Q f w) (hq : ∀ e f w, Q e f w → Q' e f w) : W P n c Q' f w :=
  fun a ha => wp_mono (h a ha) fun _ _ _ ⟨f', h1, h2, h3⟩ => ⟨f', h1, h2, hq _ _ _ h3⟩
theorem W.keeps {c : Code} (h : W P n c Q f w) : W P n c (fun e f' w' => (∀ t, wrs c t = false → f' t = f t) ∧ Q e f' w') f w :=
  fun a ha => wp_mono (h a ha) fun _ _ _ ⟨f', h1, h2, h3⟩ => ⟨f', h1, h2, h2, h3⟩
theorem W_skip (h : Q .normal f w) : W P n .skip Q f w := fun _ ha => wp_skip ⟨f, ha, fun _ _ => rfl, h⟩
theorem W_label {l : Nat} (h : Q .normal f w) : W P n (.label l) Q f w := fun _ ha => wp_label ⟨f, ha, fun _ _ => rfl, h⟩
theorem W_exit {i : Nat} (h : Q (.exit i) f w) : W P n (.exit i) Q f w := fun _ ha => wp_exit ⟨f, ha, fun _ _ => rfl, h⟩
theorem W_ret (h : Q .ret f w) : W P n .ret Q f w := fun _ ha => wp_ret ⟨f, ha, fun _ _ => rfl, h⟩

theorem W_seq {x y : Code} (h : W P n x (thn (fun f w => W P n y Q f w) Q) f w) : W P n (.seq x y) Q f w := by
  intro a ha
  refine wp_seq (wp_mono (h a ha) ?_)
  rintro e a' w' ⟨f', h1, h2, h3⟩
  have k1 : ∀ t, wrs (.seq x y) t = false → f' t = f t := fun t ht => h2 t (by simp only [wrs, Bool.or_eq_false_iff] at ht; exact ht.1)
  cases e with
  | normal =>
    refine wp_mono (h3 a' h1) fun _ _ _ ⟨f'', g1, g2, g3⟩ => ⟨f'', g1, fun t ht => (g2 t ?_).trans (k1 t ht), g3⟩
    simp only [wrs, Bool.or_eq_false_iff] at ht; exact ht.2
  | exit id => exact ⟨f', h1, k1, h3⟩
  | goto l => exact ⟨f', h1, k1, h3⟩
  | ret => exact ⟨f', h1, k1, h3⟩
  | panic ch => exact ⟨f', h1, k1, h3⟩
  | outgrown => exact ⟨f', h1, k1, h3⟩

/-- A cut between two pieces: what is known of the slots S x, and I x of the world. -/
theorem W_cut {α : Type} {x y : Code} (D : List (Nat × Nat)) (S : α → List (Nat × Value)) (I : α → World → Prop) (hD : wr D x = true)
    (h1 : W P n x (thn (fun f' w' => ∃ z, Slots f' (S z) ∧ I z w') Q) f w)
    (h2 : ∀ z g w', I z w' → W P n y Q (updS (S z) (mix D f g)) w') : W P n (.seq x y) Q f w := by
  refine W_seq (h1.keeps.mono ?_)
  rintro e f' w' ⟨hk, hq⟩
  cases e with
  | normal =>
    obtain ⟨z, hs, hi⟩ := hq
    have h3 := h2 z f' w' hi
    rw [mix_of (fun t ht => hk t (wrs_of ht x hD)), updS_self hs] at h3
    exact h3
  | exit id => exact hq
  | goto l => exact hq
  | ret => exact hq
  | panic ch => exact hq
  | outgrown => exact hq

theorem W_cond {c : Operand} {x y : Code} {t : Bool} (hc : ev f c = .bool t) (ht : t = true → W P n x Q f w) (hf : t = false → W P n y Q f w) :
    W P n (.cond c x y) Q f w := by
  intro a ha
  have hc' : a.eval c = .bool t := by rw [ha.eval]; exact hc
  refine wp_cond_split hc' (fun e => wp_mono (ht e a ha) ?_) (fun e => wp_mono (hf e a ha) ?_) <;>
    (rintro e a' w' ⟨f', h1, h2, h3⟩
     refine ⟨f', h1, fun t ht => h2 t ?_, h3⟩
     simp only [wrs, Bool.or_eq_false_iff] at ht
     first | exact ht.1 | exact ht.2)
theorem W_if {c : Operand} {x y : Code} {p : Prop} [Decidable p] (hc : ev f c = .bool (decide p)) (ht : p → W P n x Q f w) (hf : ¬ p → W P n y Q f w) :
    W P n (.cond c x y) Q f w :=
  W_cond hc (fun e => ht (of_decide_eq_true e)) (fun e => hf (of_decide_eq_false e))
theorem W_ifn {c : Operand} {x y : Code} {p : Prop} [Decidable p] (hc : ev f c = .bool (decide p)) (hf : ¬ p → W P n y Q f w) (ht : p → W P n x Q f w) :
    W P n (.cond c x y) Q f w := W_if hc ht hf
theorem W_true {c : Operand} {x y : Code} (hc : ev f c = .bool true) (h : W P n x Q f w) : W P n (.cond c x y) Q f w := W_cond hc (fun _ => h) (fun e => by cases e)
theorem W_false {c : Operand} {x y : Code} (hc : ev f c = .bool false) (h : W P n y Q f w) : W P n (.cond c x y) Q f w := W_cond hc (fun e => by cases e) (fun _ => h)

theorem W_block {id : Nat} {c : Code} (h : W P n c (blk id Q) f w) : W P n (.block id c) Q f w := by
  intro a ha
  refine wp_block (wp_mono (h a ha) ?_)
  rintro e a' w' ⟨f', h1, h2, h3⟩
  have k1 : ∀ t, wrs (.block id c) t = false → f' t = f t := fun t ht => h2 t (by simpa [wrs] using ht)
  cases e with
  | exit i =>
    simp only [Exit.inBlock]
    simp only [blk] at h3
    by_cases hi : i = id
    · subst hi
      simp only [Nat.beq_refl, cond_true] at h3
      simp only [if_true]
      exact ⟨f', h1, k1, h3⟩
    · have hb : Nat.beq i id = false := by
        cases e : Nat.beq i id with
        | false => rfl
        | true => exact absurd (Nat.eq_of_beq_eq_true e) hi
      rw [hb] at h3
      rw [if_neg hi]
      exact ⟨f', h1, k1, h3⟩
  | normal => exact ⟨f', h1, k1, h3⟩
  | goto l => exact ⟨f', h1, k1, h3⟩
  | ret => exact ⟨f', h1, k1, h3⟩
  | panic ch => exact ⟨f', h1, k1, h3⟩
  | outgrown => exact ⟨f', h1, k1, h3⟩

/-- A loop: x the state of the round's head (its slots S x, I x of the world), going down by m. -/
theorem W_loop {α : Type} {c : Code} (D : List (Nat × Nat)) (S : α → List (Nat × Value)) (I : α → World → Prop) (m : α → Nat) (hD : wr D c = true) (z : α)
    (h0 : Slots f (S z)) (hI : I z w)
    (round : ∀ x g w', I x w' → W P n c (thn (fun f' w'' => ∃ x', m x' < m x ∧ Slots f' (S x') ∧ I x' w'') Q) (updS (S x) (mix D f g)) w') : W P n (.loop c) Q f w := by
  intro a ha
  refine wp_loop_ghost (fun (x : α) a' w' => ∃ f', Rel n a' f' ∧ (∀ t, wrs c t = false → f' t = f t) ∧ Slots f' (S x) ∧ I x w') m z ⟨f, ha, fun _ _ => rfl, h0, hI⟩ ?_
  rintro x a' w' ⟨f', h1, h2, h3, h4⟩
  have h5 := round x f' w' h4
  rw [mix_of (fun t ht => h2 t (wrs_of ht c hD)), updS_self h3] at h5
  refine wp_mono (h5 a' h1) ?_
  rintro e a'' w'' ⟨f'', g1, g2, g3⟩
  have k1 : ∀ t, wrs c t = false → f'' t = f t := fun t ht => (g2 t ht).trans (h2 t ht)
  have k2 : ∀ t, wrs (.loop c) t = false → f'' t = f t := fun t ht => k1 t (by simpa [wrs] using ht)
  cases e with
  | normal => obtain ⟨x', hm, hs, hi⟩ := g3; exact ⟨x', hm, f'', g1, k1, hs, hi⟩
  | exit id => exact ⟨f'', g1, k2, g3⟩
  | goto l => exact ⟨f'', g1, k2, g3⟩
  | ret => exact ⟨f'', g1, k2, g3⟩
  | panic ch => exact ⟨f'', g1, k2, g3⟩
  | outgrown => exact ⟨f'', g1, k2, g3⟩
where
  wp_loop_ghost {α : Type} {P : Program} {c : Code} {Q : Exit → Act → World → Prop} {a : Act} {w : World} (J : α → Act → World → Prop) (m : α → Nat) (z : α) (h₀ : J z a w)
      (round : ∀ x a w, J x a w → c.wp P (Exit.then (fun a' w' => ∃ x', m x' < m x ∧ J x' a' w') Q) a w) : (Code.loop c).wp P Q a w := by
    intro b k cs
    have key : ∀ i x a w, m x = i → J x a w →
        ∃ e a' w', Q e a' w' ∧ Arrives P (lone (b.at a (.code c :: .inLoop c :: k)) cs w) b k cs e a' w' := by
      intro i
      induction i using Nat.strongRecOn with
      | _ i ih =>
        intro x a w hx hJ
        obtain ⟨e, a₁, w₁, hq, harr⟩ := round x a w hJ b (.inLoop c :: k) cs
        cases e with
        | normal =>
          obtain ⟨x', hlt, hJ'⟩ := hq
          obtain ⟨e₂, a₂, w₂, hq₂, harr₂⟩ := ih (m x') (hx ▸ hlt) x' a₁ w₁ rfl hJ'
          exact ⟨e₂, a₂, w₂, hq₂, .of_steps (Steps.trans harr (.one step_inLoop)) harr₂⟩
        | exit id => exact ⟨_, a₁, w₁, hq, .pass (x := .inLoop c) rfl (fun _ _ => .inl (by simp)) harr⟩
        | goto l => exact ⟨_, a₁, w₁, hq, .pass (x := .inLoop c) rfl (fun _ _ => .inl (by simp)) harr⟩
        | ret => exact ⟨_, a₁, w₁, hq, .pass (x := .inLoop c) rfl (fun _ _ => .inl (by simp)) harr⟩
        | panic ch => exact ⟨_, a₁, w₁, hq, .pass (x := .inLoop c) rfl (fun _ _ => .inl (by simp)) harr⟩
        | outgrown => exact ⟨_, a₁, w₁, hq, .pass (x := .inLoop c) rfl (fun _ _ => .inl (by simp)) harr⟩
    obtain ⟨e, a', w', hq, harr⟩ := key _ z a w rfl h₀
    exact ⟨e, a', w', hq, .of_steps (.one step_loop) harr⟩
end

/-! ### Operations -/
/-- What is asked once an operation has been run. -/
def upF (P : Program) (dst : Option Nat) (f : Fr) (K : Fr → World → Prop) : Result Next → Prop
  | .ok (.value v) w' => K (putF f dst v) w'
  | .ok .skip w' => K (putF f dst undef) w'
  | .ok (.enter g args) w' => Calls P g args w' fun e w'' => match e with | .returned v => K (putF f dst v) w'' | _ => False
  | _ => False
def XO (P : Program) (o : Oper) (f : Fr) (w : World) (K : Fr → World → Prop) : Prop := upF P o.dst f K ((execOp (ev f) o).run P w)
def gdF (ops : List Oper) (f : Fr) (o : Oper) : Bool := match o.guard with
  | none => true
  | some (j, want) => match (ops[j]?).bind (·.dst) with
    | some d => (match f d with | .bool b => bif want then b else !b | _ => false)
    | none => false
def XL (P : Program) (ops : List Oper) (K : Fr → World → Prop) : List Oper → Fr → World → Prop
  | [], f, w => K f w
  | o :: l, f, w => bif gdF ops f o then XO P o f w (XL P ops K l) else XL P ops K l (putF f o.dst undef) w

theorem wanted_of {n : Nat} {l : List Oper} {a : Act} {f : Fr} (h : Rel n a f) (hn : ∀ o ∈ l, ∀ d, o.dst = some d → d < n) (o : Oper) : Region.wanted o (yielded l.toArray a.tmps) = gdF l f o := by
  unfold Region.wanted gdF
  cases o.guard with
  | none => rfl
  | some p =>
    obtain ⟨j, want⟩ := p
    simp only [yielded, List.getElem?_toArray]
    cases hj : (l[j]?) with
    | none => simp
    | some o' =>
      cases hd : o'.dst with
      | none => simp [hd]
      | some d =>
        have hlt : d < a.tmps.size := by rw [h.size]; exact hn o' (List.mem_of_getElem? hj) d hd
        have hg := h.get d
        simp only [Option.bind_some, hd, Array.getElem?_eq_getElem hlt]
        simp [hlt] at hg
        rw [hg]
        cases f d <;> simp
        cases want <;> simp

theorem XO_wp {P : Program} {n : Nat} {o : Oper} {a : Act} {f : Fr} {w : World} {K : Fr → World → Prop} {K' : Act → World → Prop} {Q : Exit → Act → World → Prop} (h : Rel n a f)
    (hK : ∀ v w', K (putF f o.dst v) w' → K' (a.put o.dst v) w') (hx : XO P o f w K) : o.wp P a w K' Q := by
  unfold XO at hx
  unfold Oper.wp
  rw [h.eval]
  generalize (execOp (ev f) o).run P w = r at hx
  cases r with
  | ok nx w' =>
    cases nx <;> simp only [upF] at hx <;> simp only [Oper.upon]
    case value v => exact hK v w' hx
    case skip => exact hK _ w' hx
    case enter g args =>
      refine Calls.mono hx fun e w'' he => ?_
      cases e with
      | returned v => exact hK v w'' he
      | panicked c => exact he.elim
      | outgrown => exact he.elim
  | halt x w' => exact hx.elim

theorem XO.mono {P : Program} {o : Oper} {f : Fr} {w : World} {K K' : Fr → World → Prop} (hK : ∀ v w', K (putF f o.dst v) w' → K' (putF f o.dst v) w') (hx : XO P o f w K) : XO P o f w K' := by
  unfold XO at *
  generalize (execOp (ev f) o).run P w = r at *
  cases r with
  | ok nx w' =>
    cases nx <;> simp only [upF] at hx ⊢
    case value v => exact hK v w' hx
    case skip => exact hK _ w' hx
    case enter g args =>
      refine Calls.mono hx fun e w'' he => ?_
      cases e with
      | returned v => exact hK v w'' he
      | panicked c => exact he.elim
      | outgrown => exact he.elim
  | halt x w' => exact hx.elim

def dstOk (n : Nat) (l : List Oper) : Bool := l.all fun o => match o.dst with | some d => Nat.blt d n | none => true
theorem dstOk_spec {n : Nat} {l : List Oper} (h : dstOk n l = true) : ∀ o ∈ l, ∀ d, o.dst = some d → d < n := by
  intro o ho d hd
  have := List.all_eq_true.1 h o ho
  simp only [hd, Nat.blt_eq] at this
  exact this
theorem wrsOps_mem {l : List Oper} {o : Oper} (ho : o ∈ l) {t : Nat} (h : wrsOps l t = false) : o.dst ≠ some t := by
  intro e
  have := List.any_eq_false.1 h o ho
  simp [e] at this
theorem putF_keep {f : Fr} {dst : Option Nat} {t : Nat} (h : dst ≠ some t) (v : Value) : putF f dst v t = f t := by
  cases dst with
  | none => rfl
  | some d => exact upd_ne _ _ (fun e => h (by rw [e]))

section
variable {P : Program} {n : Nat} {Q : Exit → Fr → World → Prop} {f : Fr} {w : World}
theorem XL_wp {all : List Oper} (hn : ∀ o ∈ all, ∀ d, o.dst = some d → d < n) (f0 : Fr) :
    ∀ (l : List Oper) (k : Nat) (a : Act) (f : Fr) (w : World), (∀ j, l[j]? = all[k + j]?) → Rel n a f → (∀ t, wrsOps all t = false → f t = f0 t) →
      XL P all (fun f w => Q .normal f w) l f w →
      wpOps P all.toArray (fun e a' w' => ∃ f', Rel n a' f' ∧ (∀ t, wrsOps all t = false → f' t = f0 t) ∧ Q e f' w') (List.range' k l.length) a w
  | [], _, a, f, w, _, hr, hk, h => ⟨f, hr, hk, h⟩
  | o :: l, k, a, f, w, hl, hr, hk, h => by
    have h0 : all[k]? = some o := by simpa using (hl 0).symm
    have hmem : o ∈ all := List.mem_of_getElem? h0
    have ih := fun a f w => XL_wp hn f0 l (k + 1) a f w (fun j => by have := hl (j + 1); simpa [Nat.add_assoc, Nat.add_comm 1 j] using this)
    have next : ∀ v, (∀ t, wrsOps all t = false → putF f o.dst v t = f0 t) := fun v t ht => (putF_keep (wrsOps_mem hmem ht) v).trans (hk t ht)
    simp only [List.length_cons, List.range'_succ, wpOps, List.getElem?_toArray, h0]
    rw [wanted_of hr hn o]
    simp only [XL] at h
    cases hg : gdF all f o with
    | false =>
      rw [hg] at h
      exact ih _ _ _ (hr.put (hn o hmem) _) (next _) h
    | true =>
      rw [hg] at h
      exact .inl (XO_wp hr (fun v w' hx => ih _ _ _ (hr.put (hn o hmem) v) (next v) hx) h)

/-- A region in the order of the text. -/
theorem W_region {id : Nat} {l : List Oper} (hn : dstOk n l = true) (h : XL P l (fun f w => Q .normal f w) l f w) : W P n (.region id l.toArray false) Q f w := by
  intro a ha
  refine wp_region ?_
  have := XL_wp (dstOk_spec hn) f l 0 a f w (by simp) ha (fun _ _ => rfl) h
  simpa [List.range_eq_range', wrs] using this
end
/-! ### A region that draws its order -/
/-- An operation that reads memory. -/
def rdB (o : Oper) : Bool := match o.op with
  | .move _ | .assign _ | .pick .. | .alloc _ | .box .. | .build .. | .buildSlice .. | .store .. | .nilCheck _ | .binOp .. | .unOp .. | .makeFunc .. | .makeMap .. | .makeSlice .. | .fieldAddr .. | .field .. | .indexAddr .. | .index .. | .extract .. | .insert .. | .mapUpdate .. => false
  | .slice .. => false
  | .call ⟨.builtin .append, _, _⟩ => false
  | .call ⟨.builtin .min, _, _⟩ => false
  | .call ⟨.builtin .max, _, _⟩ => false
  | .call ⟨.value _, _, _⟩ => false
  | _ => true
/-- Every operation that reads comes ahead of operation j. -/
def lateB (all : List Oper) (j : Nat) : Bool := match all[j]? with
  | none => false
  | some o => (List.range all.length).all fun i => match all[i]? with
    | none => true
    | some oi => !rdB oi || i == j || o.after.any fun e => Region.binds .any e && e.on == i
/-- Whatever order is picked from here on; every world met while an operation that reads is still to come is of the class C. -/
def XA (P : Program) (all : List Oper) (C : World → Prop) (K : Fr → World → Prop) : Nat → Array Bool → Fr → World → Prop
  | 0, ls, f, w => Region.ready .any all.toArray ls = [] ∧ K f w
  | k + 1, ls, f, w => (Region.ready .any all.toArray ls = [] → K f w) ∧
    ∀ i ∈ Region.ready .any all.toArray ls, ∀ o, all[i]? = some o →
      bif gdF all f o then XO P o f w (fun f' w' => (lateB all i = true ∨ w' = w ∨ C w') ∧ XA P all C K k (ls.setIfInBounds i true) f' w') else XA P all C K k (ls.setIfInBounds i true) (putF f o.dst undef) w

section
variable {P : Program} {n : Nat} {f : Fr} {w : World} {all : List Oper} {C : World → Prop} {K : Fr → World → Prop}

theorem XA_wp {Q : Exit → Act → World → Prop} (hn : ∀ o ∈ all, ∀ d, o.dst = some d → d < n) (f0 : Fr)
    (hQ : ∀ a f w, Rel n a f → (∀ t, wrsOps all t = false → f t = f0 t) → K f w → Q .normal a w) :
    ∀ (k : Nat) (ls : Array Bool) (a : Act) (f : Fr) (w : World), Rel n a f → (∀ t, wrsOps all t = false → f t = f0 t) → XA P all C K k ls f w → wpAny P .any all.toArray Q k ls a w
  | 0, _, a, f, w, hr, hk, h => ⟨h.1, hQ a f w hr hk h.2⟩
  | k + 1, ls, a, f, w, hr, hk, h => by
    refine ⟨fun h0 => hQ a f w hr hk (h.1 h0), fun i hi => ?_⟩
    unfold wpOp
    simp only [List.getElem?_toArray]
    cases ho : all[i]? with
    | none =>
      exfalso
      obtain ⟨_, o, hoo, _⟩ := mem_ready.1 hi
      simp [ho] at hoo
    | some o =>
      have hmem : o ∈ all := List.mem_of_getElem? ho
      have h1 := h.2 i hi o ho
      have next : ∀ v, (∀ t, wrsOps all t = false → putF f o.dst v t = f0 t) := fun v t ht => (putF_keep (wrsOps_mem hmem ht) v).trans (hk t ht)
      simp only []
      rw [wanted_of hr hn o]
      cases hg : gdF all f o with
      | false =>
        rw [hg] at h1
        exact XA_wp hn f0 hQ k _ _ _ _ (hr.put (hn o hmem) _) (next _) h1
      | true =>
        rw [hg] at h1
        exact .inl (XO_wp hr (fun v w' hx => XA_wp hn f0 hQ k _ _ _ _ (hr.put (hn o hmem) v) (next v) hx.2) h1)

theorem putF_comm (f : Fr) {x y : Option Nat} (v u : Value) (h : ∀ d, x = some d → y ≠ some d) : putF (putF f x v) y u = putF (putF f y u) x v := by
  cases x with
  | none => rfl
  | some d =>
    cases y with
    | none => rfl
    | some e =>
      have hne : d ≠ e := fun he => h d rfl (he ▸ rfl)
      funext t
      simp only [putF]
      by_cases h1 : t = d
      · subst h1; rw [upd_ne _ _ hne, upd_same, upd_same]
      · by_cases h2 : t = e
        · subst h2; rw [upd_same, upd_ne _ _ h1, upd_same]
        · rw [upd_ne _ _ h2, upd_ne _ _ h1, upd_ne _ _ h1, upd_ne _ _ h2]
theorem ev_putF {f : Fr} {dst : Option Nat} {v : Value} {x : Operand} (h : ∀ d, dst = some d → x ≠ .tmp d) : ev (putF f dst v) x = ev f x := by
  cases dst with
  | none => rfl
  | some d =>
    cases x with
    | tmp t => exact upd_ne _ _ (fun e => h d rfl (by rw [e]))
    | _ => rfl
theorem execOp_putF {o : Oper} (hs : ∀ cs b, o.op ≠ .select cs b) (f : Fr) (dst : Option Nat) (v : Value) (h : ∀ d, dst = some d → d ∉ o.looksAt all.toArray) :
    execOp (ev (putF f dst v)) o = execOp (ev f) o :=
  execOp_congr o hs fun x hx => ev_putF fun d hd hxd => h d hd (by
    subst hxd
    exact List.mem_append_left _ (List.mem_filterMap.2 ⟨.tmp d, by simpa using hx, rfl⟩))
theorem gdF_putF (o : Oper) (f : Fr) (dst : Option Nat) (v : Value) (h : ∀ d, dst = some d → d ∉ o.looksAt all.toArray) : gdF all (putF f dst v) o = gdF all f o := by
  unfold gdF
  cases hg : o.guard with
  | none => rfl
  | some gw =>
    obtain ⟨g, want⟩ := gw
    simp only []
    cases ht : (all[g]?).bind (·.dst) with
    | none => rfl
    | some t =>
      have hne : dst ≠ some t := fun e => h t e (by simp [Oper.looksAt, hg, ht])
      simp only []
      rw [putF_keep hne]

/-- In every world of the class D the operation yields v and leaves the world alone (or it is not wanted). -/
def Quiet (P : Program) (all : List Oper) (D : World → Prop) (o : Oper) (v : Value) (f : Fr) : Prop :=
  (gdF all f o = true ∧ ∀ w, D w → (execOp (ev f) o).run P w = .ok (.value v) w) ∨ (gdF all f o = false ∧ v = undef)

theorem late_no {i j : Nat} {oi oj : Oper} (hi : all[i]? = some oi) (hj : all[j]? = some oj) (hr : rdB oi = true) (hne : j ≠ i) (hl : lateB all j = true) (hnot : ∀ e ∈ oj.after, Region.binds .any e = true → e.on ≠ i) : False := by
  simp only [lateB, hj, List.all_eq_true, List.mem_range] at hl
  have hlt : i < all.length := (List.getElem?_eq_some_iff.1 hi).1
  have h1 := hl i hlt
  simp only [hi, hr, Bool.not_true, Bool.false_or, Bool.or_eq_true, beq_iff_eq, Array.any_eq_true', Bool.and_eq_true] at h1
  rcases h1 with h1 | ⟨e, he, hb, ho⟩
  · exact hne h1.symm
  · exact hnot e he hb ho

/-- The reading operation oi, or one that reads nothing, may be taken first. -/
theorem XA_first {i : Nat} {oi : Oper} {v : Value} {D : World → Prop} (hi : all[i]? = some oi) (hD : ∀ w, (rdB oi = true → C w) → D w) (hsel : ∀ (j : Nat) (o : Oper) cs b, all[j]? = some o → o.op ≠ .select cs b) :
    ∀ (fuel : Nat) (ls : Array Bool) (f : Fr) (w : World), (rdB oi = true → C w) →
      (∀ j oj, all[j]? = some oj → j ≠ i → ls.getD j true = false → (∀ e ∈ oj.after, Region.binds .any e = true → e.on ≠ i) → oi.apart all.toArray oj = true) →
      i ∈ Region.ready .any all.toArray ls → Quiet P all D oi v f →
      XA P all C K fuel (ls.setIfInBounds i true) (putF f oi.dst v) w → XA P all C K (fuel + 1) ls f w := by
  have here : ∀ (fuel : Nat) (ls : Array Bool) (f : Fr) (w : World), (rdB oi = true → C w) → Quiet P all D oi v f → XA P all C K fuel (ls.setIfInBounds i true) (putF f oi.dst v) w → ∀ o, all[i]? = some o →
      bif gdF all f o then XO P o f w (fun f' w' => (lateB all i = true ∨ w' = w ∨ C w') ∧ XA P all C K fuel (ls.setIfInBounds i true) f' w') else XA P all C K fuel (ls.setIfInBounds i true) (putF f o.dst undef) w := by
    intro fuel ls f w hC hy H o ho
    rw [hi] at ho
    cases ho
    rcases hy with ⟨hg, hv⟩ | ⟨hg, rfl⟩
    · rw [hg]; simp only [cond_true, XO, hv w (hD w hC), upF]; exact ⟨.inr (.inl trivial), H⟩
    · rw [hg]; exact H
  intro fuel
  induction fuel with
  | zero =>
    intro ls f w hC _ hr hy H
    refine ⟨fun h => (by rw [h] at hr; cases hr), fun j hj => ?_⟩
    by_cases hji : j = i
    · subst hji; exact here _ _ _ _ hC hy H
    · have := ready_mono hj hji
      rw [H.1] at this
      cases this
  | succ fuel ih =>
    intro ls f w hC hfree hr hy H
    refine ⟨fun h => (by rw [h] at hr; cases hr), fun j hj => ?_⟩
    by_cases hji : j = i
    · subst hji; exact here _ _ _ _ hC hy H
    · intro oj hoj
      have h1 := H.2 j (ready_mono hj hji) oj hoj
      obtain ⟨hjun, oj', hoj', hall⟩ := mem_ready.1 hj
      have hoj'' : oj' = oj := by rw [List.getElem?_toArray, hoj] at hoj'; exact (Option.some.inj hoj').symm
      subst hoj''
      have hnot : ∀ e ∈ oj'.after, Region.binds .any e = true → e.on ≠ i := fun e he hb heq => by
        have h1 := hall e he hb
        have h0 := (mem_ready.1 hr).1
        rw [heq] at h1
        rcases Nat.lt_or_ge i ls.size with h' | h'
        · simp [h'] at h0 h1; rw [h0] at h1; cases h1
        · simp [Array.getElem?_eq_none h'] at h1
      obtain ⟨a1, a2, a3⟩ := Oper.apart_spec (hfree j oj' hoj hji hjun hnot)
      have hfree' : ∀ k ok, all[k]? = some ok → k ≠ i → (ls.setIfInBounds j true).getD k true = false →
          (∀ e ∈ ok.after, Region.binds .any e = true → e.on ≠ i) → oi.apart all.toArray ok = true := fun k ok hk hki hun hno => by
        refine hfree k ok hk hki ?_ hno
        by_cases hjk : j = k
        · subst hjk; exact hjun
        · rw [getD_set_ne true hjk] at hun; exact hun
      have keep : ∀ u, Quiet P all D oi v (putF f oj'.dst u) := fun u => by
        unfold Quiet at *
        rw [gdF_putF oi f oj'.dst u a3, execOp_putF (all := all) (hsel i oi · · hi) f oj'.dst u a3]
        exact hy
      have dOf : ∀ w', (lateB all j = true ∨ w' = w ∨ C w') → (rdB oi = true → C w') := fun w' hl hrd => by
        rcases hl with hl | rfl | hl
        · exact (late_no hi hoj hrd hji hl hnot).elim
        · exact hC hrd
        · exact hl
      have go : ∀ u w', (rdB oi = true → C w') → XA P all C K fuel ((ls.setIfInBounds i true).setIfInBounds j true) (putF (putF f oi.dst v) oj'.dst u) w' →
          XA P all C K (fuel + 1) (ls.setIfInBounds j true) (putF f oj'.dst u) w' := fun u w' hC' hx => by
        refine ih _ _ _ hC' hfree' (ready_mono hr (Ne.symm hji)) (keep u) ?_
        rw [Array.setIfInBounds_comm _ _ hji, ← putF_comm f v u a2]
        exact hx
      rw [gdF_putF oj' f oi.dst v a1] at h1
      cases hg : gdF all f oj' with
      | false => rw [hg] at h1; exact go _ _ hC h1
      | true =>
        rw [hg] at h1
        simp only [cond_true] at h1 ⊢
        unfold XO at *
        rw [execOp_putF (all := all) (hsel j oj' · · hoj) f oi.dst v a1] at h1
        generalize (execOp (ev f) oj').run P w = r at *
        cases r with
        | ok nx w' =>
          cases nx <;> simp only [upF] at h1 ⊢
          case value u => exact ⟨h1.1, go _ _ (dOf _ h1.1) h1.2⟩
          case skip => exact ⟨h1.1, go _ _ (dOf _ h1.1) h1.2⟩
          case enter g args =>
            refine Calls.mono h1 fun e w'' he => ?_
            cases e with
            | returned u => exact ⟨he.1, go _ _ (dOf _ he.1) he.2⟩
            | panicked c => exact he.elim
            | outgrown => exact he.elim
        | halt x w' => exact h1.elim

/-- A plan: operations in order; true: quiet, taken ahead; false: the only one that may come up. -/
def planGo (all : Array Oper) : List (Nat × Bool) → Array Bool → Bool
  | [], ls => (Region.ready .any all ls).isEmpty
  | (i, true) :: pl, ls => (Region.ready .any all ls).contains i && Region.free .any all ls i && planGo all pl (ls.setIfInBounds i true)
  | (i, false) :: pl, ls => Region.ready .any all ls == [i] && planGo all pl (ls.setIfInBounds i true)
def planOk (all : List Oper) (pl : List (Nat × Bool)) : Bool := Region.noSelect all.toArray && pl.length == all.length && planGo all.toArray pl (Array.replicate all.length false)
def opAt : List Oper → Nat → Oper
  | [], _ => default
  | o :: _, 0 => o
  | _ :: l, i + 1 => opAt l i
theorem opAt_some {l : List Oper} {i : Nat} {o : Oper} (h : l[i]? = some o) : opAt l i = o := by
  induction l generalizing i with
  | nil => simp at h
  | cons a l ih => cases i with
    | zero => simp at h; subst h; rfl
    | succ i => exact ih (by simpa using h)
def XP (P : Program) (all : List Oper) (C : World → Prop) (K : Fr → World → Prop) : List (Nat × Bool) → Fr → World → Prop
  | [], f, w => K f w
  | (i, q) :: pl, f, w => bif gdF all f (opAt all i) then
        (bif q then ∃ v, (∀ w', (rdB (opAt all i) = true → C w') → (execOp (ev f) (opAt all i)).run P w' = .ok (.value v) w') ∧ XP P all C K pl (putF f (opAt all i).dst v) w
         else XO P (opAt all i) f w fun f' w' => (lateB all i = true ∨ w' = w ∨ C w') ∧ XP P all C K pl f' w')
      else XP P all C K pl (putF f (opAt all i).dst undef) w
/-- All that reads has come up. -/
def allRd (all : List Oper) (ls : Array Bool) : Prop := ∀ i o, all[i]? = some o → rdB o = true → ls.getD i false = true
theorem allRd.set {ls : Array Bool} (h : allRd all ls) (i : Nat) : allRd all (ls.setIfInBounds i true) := fun j o ho hr => getD_set_true (h j o ho hr)

theorem XA_of_plan (hs : Region.noSelect all.toArray = true) : ∀ (pl : List (Nat × Bool)) (ls : Array Bool) (f : Fr) (w : World), ls.size = all.length → (C w ∨ allRd all ls) → planGo all.toArray pl ls = true → XP P all C K pl f w →
    XA P all C K pl.length ls f w
  | [], ls, f, w, _, _, hp, h => ⟨by simpa [planGo] using hp, h⟩
  | (i, true) :: pl, ls, f, w, hsz, hC, hp, h => by
    simp only [planGo, Bool.and_eq_true] at hp
    obtain ⟨⟨hr, hf⟩, hp'⟩ := hp
    simp only [XP] at h
    have hri : i ∈ Region.ready .any all.toArray ls := by simpa using hr
    cases ho : all[i]? with
    | none =>
      exfalso
      obtain ⟨_, o, hoo, _⟩ := mem_ready.1 hri
      simp [ho] at hoo
    | some o =>
      rw [opAt_some ho] at h
      have hsel : ∀ (j : Nat) (o : Oper) cs b, all[j]? = some o → o.op ≠ .select cs b := fun j o cs b hj => Region.noSelect_spec hs j o cs b (by simpa using hj)
      have hfree := fun j oj hj => Region.free_spec (ops := all.toArray) (md := .any) (i := i) (oi := o) (listed := ls) (by simpa using ho) hf j oj (by simpa using hj)
      have hun := (mem_ready.1 hri).1
      have hCr : rdB o = true → C w := fun hrd => hC.resolve_right (fun hall => by
        have h1 := hall i o ho hrd
        have hlt : i < ls.size := by rw [hsz]; exact (List.getElem?_eq_some_iff.1 ho).1
        simp [hlt] at hun h1; rw [hun] at h1; cases h1)
      have hC' : C w ∨ allRd all (ls.setIfInBounds i true) := hC.imp id (fun h => h.set i)
      have hsz' : (ls.setIfInBounds i true).size = all.length := by simpa using hsz
      cases hg : gdF all f o with
      | false =>
        rw [hg] at h
        exact XA_first (v := undef) (D := fun w => rdB o = true → C w) ho (fun _ h => h) hsel pl.length ls f w hCr hfree hri (.inr ⟨hg, rfl⟩) (XA_of_plan hs pl _ _ _ hsz' hC' hp' h)
      | true =>
        rw [hg] at h
        simp only [cond_true] at h
        obtain ⟨v, hv, hx⟩ := h
        exact XA_first (v := v) (D := fun w => rdB o = true → C w) ho (fun _ h => h) hsel pl.length ls f w hCr hfree hri (.inl ⟨hg, hv⟩) (XA_of_plan hs pl _ _ _ hsz' hC' hp' hx)
  | (i, false) :: pl, ls, f, w, hsz, hC, hp, h => by
    simp only [planGo, Bool.and_eq_true, beq_iff_eq] at hp
    obtain ⟨hr, hp'⟩ := hp
    refine ⟨fun h0 => (by rw [h0] at hr; cases hr), ?_⟩
    have hri : i ∈ Region.ready .any all.toArray ls := by rw [hr]; simp
    rw [hr]
    intro j hj o ho
    have : j = i := by simpa using hj
    subst this
    have hsz' : (ls.setIfInBounds j true).size = all.length := by simpa using hsz
    simp only [XP, opAt_some ho] at h
    cases hg : gdF all f o with
    | false => rw [hg] at h; exact XA_of_plan hs pl _ _ _ hsz' (hC.imp id (fun h => h.set j)) hp' h
    | true =>
      rw [hg] at h
      simp only [cond_true, cond_false] at h ⊢
      refine h.mono fun v w' hx => ⟨hx.1, XA_of_plan hs pl _ _ _ hsz' ?_ hp' hx.2⟩
      rcases hx.1 with hl | rfl | hc
      · right
        intro k ok hk hrd
        by_cases hkj : k = j
        · subst hkj
          have hlt : k < ls.size := by rw [hsz]; exact (List.getElem?_eq_some_iff.1 hk).1
          simp [hlt]
        · simp only [lateB, ho, List.all_eq_true, List.mem_range] at hl
          have h1 := hl k (List.getElem?_eq_some_iff.1 hk).1
          simp only [hk, hrd, Bool.not_true, Bool.false_or, Bool.or_eq_true, beq_iff_eq, Array.any_eq_true', Bool.and_eq_true] at h1
          rcases h1 with h1 | ⟨e, he, hb, hon⟩
          · exact absurd h1 hkj
          · obtain ⟨_, o', ho', hall⟩ := mem_ready.1 hri
            have : o' = o := by rw [List.getElem?_toArray, ho] at ho'; exact (Option.some.inj ho').symm
            subst this
            have := hall e he hb
            rw [hon] at this
            exact getD_set_true this
      · exact hC.imp id (fun h => h.set j)
      · exact .inl hc

theorem W_draw {Q : Exit → Fr → World → Prop} {id : Nat} (C : World → Prop) (pl : List (Nat × Bool)) (hm : P.follows .mixedOrders = true) (hn : dstOk n all = true) (hp : planOk all pl = true)
    (hC : C { w with drawn := w.drawn + 1 }) (h : XP P all C (fun f w => Q .normal f w) pl f { w with drawn := w.drawn + 1 }) : W P n (.region id all.toArray true) Q f w := by
  intro a ha
  simp only [planOk, Bool.and_eq_true, beq_iff_eq] at hp
  obtain ⟨⟨hs, hl⟩, hp⟩ := hp
  refine wp_region_any hm ?_
  have h1 := XA_of_plan hs pl _ _ _ (by simp) (.inl hC) hp h
  rw [hl] at h1
  have h2 := XA_wp (n := n) (Q := fun e a' w' => ∃ f', Rel n a' f' ∧ (∀ t, wrsOps all t = false → f' t = f t) ∧ Q e f' w') (dstOk_spec hn) f
    (fun a f' w hr hk hq => ⟨f', hr, hk, hq⟩) _ _ a f _ ha (fun _ _ => rfl) h1
  simpa [wrs] using h2
/-- A drawn region by all orders that are left open (no plan). -/
theorem W_draw_any {Q : Exit → Fr → World → Prop} {id : Nat} (C : World → Prop) (hm : P.follows .mixedOrders = true) (hn : dstOk n all = true)
    (h : XA P all C (fun f w => Q .normal f w) all.length (Array.replicate all.length false) f { w with drawn := w.drawn + 1 }) : W P n (.region id all.toArray true) Q f w := by
  intro a ha
  refine wp_region_any hm ?_
  have h2 := XA_wp (n := n) (Q := fun e a' w' => ∃ f', Rel n a' f' ∧ (∀ t, wrsOps all t = false → f' t = f t) ∧ Q e f' w') (dstOk_spec hn) f
    (fun a f' w hr hk hq => ⟨f', hr, hk, hq⟩) _ _ a f _ ha (fun _ _ => rfl) h
  simpa [wrs] using h2
end
theorem XA_succ {P : Program} {all : List Oper} {C : World → Prop} {K : Fr → World → Prop} {k : Nat} {ls : Array Bool} {f : Fr} {w : World} (h0 : Region.ready .any all.toArray ls = [] → K f w)
    (h : ∀ i ∈ Region.ready .any all.toArray ls, ∀ o, all[i]? = some o →
      bif gdF all f o then XO P o f w (fun f' w' => (lateB all i = true ∨ w' = w ∨ C w') ∧ XA P all C K k (ls.setIfInBounds i true) f' w') else XA P all C K k (ls.setIfInBounds i true) (putF f o.dst undef) w) : XA P all C K (k + 1) ls f w := ⟨h0, h⟩
attribute [irreducible] W XL XP XO XA
end Go.Lg
/- The operations' rules: what one operation does, over any program. -/
namespace Go.Lg
open Go.RowKit

/-! ### Facts on types, found by instance -/
/-- t is a slice type; its elements' type e takes sz cells, by bytes, z its zero. -/
class Sl (P : Program) (t : Nat) (e sz bys : outParam Nat) (z : outParam Value) : Prop where
  u : P.underlying t = some (.slice e)
  i : (P.info? e).map (fun i => (i.zero, i.size, i.bytes)) = some (some z, sz, bys)
  zs : z.cells.size = sz
  pos : 0 < sz
/-- The field j of struct t: its offset. -/
def fOff (P : Program) (t j : Nat) : Option Nat := match P.underlying t with
  | some (.struct fs) => match fs[j]? with
    | some fd => match P.info? fd.type with
      | some i => if i.size = 0 then none else some fd.offset
      | none => none
    | none => none
  | _ => none
class FOff (P : Program) (t j : Nat) (off : outParam Nat) : Prop where
  h : fOff P t j = some off
/-- A type of one cell, no struct and no array. -/
class One (P : Program) (t : Nat) : Prop where
  u : ∃ d, P.underlying t = some d ∧ (match d with | .struct _ | .array .. => false | _ => true) = true
  i : (P.info? t).map (·.size) = some 1
/-- A struct or an array of sz cells. -/
class Ag (P : Program) (t : Nat) (sz : outParam Nat) : Prop where
  u : ∃ d, P.underlying t = some d ∧ (match d with | .struct _ | .array .. => true | _ => false) = true
  i : (P.info? t).map (·.size) = some sz
class Ze (P : Program) (t : Nat) (z : outParam Value) : Prop where
  i : (P.info? t).map (·.zero) = some (some z)
/-- A function with a body. -/
class Fu (P : Program) (g : Nat) (fn : outParam Func) : Prop where
  f : P.funcs[g]? = some fn
  b : fn.body.isNone = false
  nm : (fn.name == "runtime.NumGoroutine") = false

/-! ### Lists of operations -/
section
variable {P : Program} {ops : List Oper} {K : Fr → World → Prop} {f : Fr} {w : World}
theorem xe (h : K f w) : XL P ops K [] f w := by simp only [XL]; exact h
theorem xl {o : Oper} {l : List Oper} (hg : gdF ops f o = true) (h : XO P o f w (XL P ops K l)) : XL P ops K (o :: l) f w := by
  simp only [XL, hg, cond_true]; exact h
theorem xs {o : Oper} {l : List Oper} (hg : gdF ops f o = false) (h : XL P ops K l (putF f o.dst undef) w) : XL P ops K (o :: l) f w := by
  simp only [XL, hg, cond_false]; exact h
theorem xv {o : Oper} {v : Value} {w' : World} (hr : (execOp (ev f) o).run P w = .ok (.value v) w') (h : K (putF f o.dst v) w') : XO P o f w K := by
  simp only [XO, hr, upF]; exact h
theorem xk {o : Oper} {w' : World} (hr : (execOp (ev f) o).run P w = .ok .skip w') (h : K (putF f o.dst undef) w') : XO P o f w K := by
  simp only [XO, hr, upF]; exact h
/-- value operations, in one -/
theorem x {o : Oper} {l : List Oper} {v : Value} (hr : (execOp (ev f) o).run P w = .ok (.value v) w) (h : XL P ops K l (putF f o.dst v) w) (hg : gdF ops f o = true := by rfl) : XL P ops K (o :: l) f w :=
  xl hg (xv hr h)

/-- a test, parted -/
theorem xb {o : Oper} {l : List Oper} {q : Prop} [Decidable q] (hr : (execOp (ev f) o).run P w = .ok (.value (.bool (decide q))) w) (ht : q → XL P ops K l (putF f o.dst (.bool true)) w) (hf : ¬ q → XL P ops K l (putF f o.dst (.bool false)) w)
    (hg : gdF ops f o = true := by rfl) : XL P ops K (o :: l) f w := by
  by_cases h : q
  · rw [decide_eq_true h] at hr; exact x hr (ht h) hg
  · rw [decide_eq_false h] at hr; exact x hr (hf h) hg
variable {C : World → Prop}
theorem pe (h : K f w) : XP P ops C K [] f w := by simp only [XP]; exact h
theorem pq {i : Nat} {pl : List (Nat × Bool)} {v : Value} (hr : ∀ w', C w' → (execOp (ev f) (opAt ops i)).run P w' = .ok (.value v) w') (h : XP P ops C K pl (putF f (opAt ops i).dst v) w)
    (hd : rdB (opAt ops i) = true := by rfl) (hg : gdF ops f (opAt ops i) = true := by rfl) : XP P ops C K ((i, true) :: pl) f w := by
  simp only [XP, hg, cond_true]; exact ⟨v, fun w' hc => hr w' (hc hd), h⟩
/-- A plain value operation. -/
theorem p {i : Nat} {pl : List (Nat × Bool)} {v : Value} (hr : ∀ w', (execOp (ev f) (opAt ops i)).run P w' = .ok (.value v) w') (h : XP P ops C K pl (putF f (opAt ops i).dst v) w)
    (hg : gdF ops f (opAt ops i) = true := by rfl) : XP P ops C K ((i, true) :: pl) f w := by
  simp only [XP, hg, cond_true]; exact ⟨v, fun w' _ => hr w', h⟩
theorem ps {i : Nat} {q : Bool} {pl : List (Nat × Bool)} (h : XP P ops C K pl (putF f (opAt ops i).dst undef) w)
    (hg : gdF ops f (opAt ops i) = false := by rfl) : XP P ops C K ((i, q) :: pl) f w := by
  simp only [XP, hg, cond_false]; exact h
theorem pb {i : Nat} {pl : List (Nat × Bool)} {q : Prop} [Decidable q] (hr : ∀ w', (execOp (ev f) (opAt ops i)).run P w' = .ok (.value (.bool (decide q))) w') (ht : q → XP P ops C K pl (putF f (opAt ops i).dst (.bool true)) w) (hf : ¬ q → XP P ops C K pl (putF f (opAt ops i).dst (.bool false)) w)
    (hg : gdF ops f (opAt ops i) = true := by rfl) : XP P ops C K ((i, true) :: pl) f w := by
  by_cases h : q
  · rw [decide_eq_true h] at hr; exact p hr (ht h) hg
  · rw [decide_eq_false h] at hr; exact p hr (hf h) hg
/-- An operation that makes or writes memory, or a call: the class is kept. -/
theorem pk {i : Nat} {pl : List (Nat × Bool)} (h : XO P (opAt ops i) f w fun f' w' => C w' ∧ XP P ops C K pl f' w')
    (hg : gdF ops f (opAt ops i) = true := by rfl) : XP P ops C K ((i, false) :: pl) f w := by
  simp only [XP, hg, cond_true, cond_false]; exact h.mono fun _ _ hx => ⟨.inr (.inr hx.1), hx.2⟩
/-- The same, behind all that reads. -/
theorem pkl {i : Nat} {pl : List (Nat × Bool)} (h : XO P (opAt ops i) f w fun f' w' => XP P ops C K pl f' w')
    (hl : lateB ops i = true := by rfl) (hg : gdF ops f (opAt ops i) = true := by rfl) : XP P ops C K ((i, false) :: pl) f w := by
  simp only [XP, hg, cond_true, cond_false]; exact h.mono fun _ _ hx => ⟨.inl hl, hx⟩
end

/-! ### Run equations -/
section
variable {P : Program} {f : Fr} {w : World} {d : Option Nat} {ty : Nat} {ps : String} {af : Array Edge} {gd : Option (Nat × Bool)}
theorem r_move {x : Operand} : (execOp (ev f) ⟨d, .move x, ty, ps, af, gd⟩).run P w = .ok (.value (ev f x)) w := by simp [execOp]
theorem r_assign {x : Operand} : (execOp (ev f) ⟨d, .assign x, ty, ps, af, gd⟩).run P w = .ok (.value (ev f x)) w := by simp [execOp]
theorem r_pick {c a b : Operand} {t : Bool} (h : ev f c = .bool t) : (execOp (ev f) ⟨d, .pick c a b, ty, ps, af, gd⟩).run P w = .ok (.value (bif t then ev f a else ev f b)) w := by
  cases t <;> simp [execOp, h, asBool]
theorem r_extract {x : Operand} {j : Nat} {vs : List Value} {v : Value} (h : ev f x = .tuple vs.toArray) (hj : vs[j]? = some v) : (execOp (ev f) ⟨d, .extract x j, ty, ps, af, gd⟩).run P w = .ok (.value v) w := by
  simp [execOp, h, Instr.extract, hj]

/- integers -/
theorem eqGuard_int {op : BinOp} {t : TypeId} {x y : Operand} {k k' : IntKind} {a b : Int} : (eqGuard op t x y (.int k a) (.int k' b)).run P w = .ok () w := by
  simp only [eqGuard]; split <;> simp
theorem r_bin {op : BinOp} {t t' : Nat} {x y : Operand} {k k' : IntKind} {a b : Int} {v : Value} (hx : ev f x = .int k a) (hy : ev f y = .int k' b)
    (h : (binOp op t (.int k a) (.int k' b)).run P w = .ok v w) : (execOp (ev f) ⟨d, .binOp op t x y t', ty, ps, af, gd⟩).run P w = .ok (.value v) w := by
  simp [execOp, hx, hy, eqGuard_int, h]
def inK (k : IntKind) (n : Int) : Prop := match k with
  | .i64 => -9223372036854775808 ≤ n ∧ n ≤ 9223372036854775807
  | .u8 => 0 ≤ n ∧ n ≤ 255
  | .u16 => 0 ≤ n ∧ n ≤ 65535
  | .u32 => 0 ≤ n ∧ n ≤ 4294967295
  | .u64 => 0 ≤ n ∧ n ≤ 18446744073709551615
  | .i32 => -2147483648 ≤ n ∧ n ≤ 2147483647
  | _ => False
theorem wrap_in {k : IntKind} {n : Int} (h : inK k n) : k.wrap n = n := by
  cases k <;> simp only [inK] at h <;> simp only [IntKind.wrap, IntKind.bits, IntKind.signed] <;> first | exact h.elim | (simp; omega)
theorem r_add {t t' : Nat} {x y : Operand} {k : IntKind} {a b : Int} (hx : ev f x = .int k a) (hy : ev f y = .int k b) (h : inK k (a + b)) :
    (execOp (ev f) ⟨d, .binOp .add t x y t', ty, ps, af, gd⟩).run P w = .ok (.value (.int k (a + b))) w := r_bin hx hy (by simp [binOp, Op.intArith, wrap_in h])
theorem r_sub {t t' : Nat} {x y : Operand} {k : IntKind} {a b : Int} (hx : ev f x = .int k a) (hy : ev f y = .int k b) (h : inK k (a - b)) :
    (execOp (ev f) ⟨d, .binOp .sub t x y t', ty, ps, af, gd⟩).run P w = .ok (.value (.int k (a - b))) w := r_bin hx hy (by simp [binOp, Op.intArith, wrap_in h])
theorem r_mul {t t' : Nat} {x y : Operand} {k : IntKind} {a b : Int} (hx : ev f x = .int k a) (hy : ev f y = .int k b) (h : inK k (a * b)) :
    (execOp (ev f) ⟨d, .binOp .mul t x y t', ty, ps, af, gd⟩).run P w = .ok (.value (.int k (a * b))) w := r_bin hx hy (by simp [binOp, Op.intArith, wrap_in h])
theorem r_lss {t t' : Nat} {x y : Operand} {k : IntKind} {a b : Int} (hx : ev f x = .int k a) (hy : ev f y = .int k b) :
    (execOp (ev f) ⟨d, .binOp .lss t x y t', ty, ps, af, gd⟩).run P w = .ok (.value (.bool (decide (a < b)))) w := r_bin hx hy (by simp [binOp, Op.intCmp])
theorem r_leq {t t' : Nat} {x y : Operand} {k : IntKind} {a b : Int} (hx : ev f x = .int k a) (hy : ev f y = .int k b) :
    (execOp (ev f) ⟨d, .binOp .leq t x y t', ty, ps, af, gd⟩).run P w = .ok (.value (.bool (decide (a ≤ b)))) w := r_bin hx hy (by simp [binOp, Op.intCmp])
theorem r_gtr {t t' : Nat} {x y : Operand} {k : IntKind} {a b : Int} (hx : ev f x = .int k a) (hy : ev f y = .int k b) :
    (execOp (ev f) ⟨d, .binOp .gtr t x y t', ty, ps, af, gd⟩).run P w = .ok (.value (.bool (decide (b < a)))) w := r_bin hx hy (by simp [binOp, Op.intCmp])
theorem r_geq {t t' : Nat} {x y : Operand} {k : IntKind} {a b : Int} (hx : ev f x = .int k a) (hy : ev f y = .int k b) :
    (execOp (ev f) ⟨d, .binOp .geq t x y t', ty, ps, af, gd⟩).run P w = .ok (.value (.bool (decide (b ≤ a)))) w := r_bin hx hy (by simp [binOp, Op.intCmp])
theorem r_eql {t t' : Nat} {x y : Operand} {k : IntKind} {a b : Int} (hx : ev f x = .int k a) (hy : ev f y = .int k b) :
    (execOp (ev f) ⟨d, .binOp .eql t x y t', ty, ps, af, gd⟩).run P w = .ok (.value (.bool (decide (a = b)))) w :=
  r_bin hx hy (by simp [binOp, Op.intCmp]; by_cases h : a = b <;> simp [h])
theorem r_neq {t t' : Nat} {x y : Operand} {k : IntKind} {a b : Int} (hx : ev f x = .int k a) (hy : ev f y = .int k b) :
    (execOp (ev f) ⟨d, .binOp .neq t x y t', ty, ps, af, gd⟩).run P w = .ok (.value (.bool (decide (¬ a = b)))) w :=
  r_bin hx hy (by simp [binOp, Op.intCmp]; by_cases h : a = b <;> simp [h])
theorem r_not {t : Nat} {x : Operand} {b : Bool} (hx : ev f x = .bool b) : (execOp (ev f) ⟨d, .unOp .not t x, ty, ps, af, gd⟩).run P w = .ok (.value (.bool (!b))) w := by
  simp [execOp, hx, Op.unary]

/- slices -/
theorem r_len {x : Operand} {t e sz bys : Nat} {z : Value} [h : Sl P t e sz bys z] {a : Option Addr} {n c : Nat} (hx : ev f x = .slice a n c) :
    (execOp (ev f) ⟨d, .call ⟨.builtin .len, #[x], #[t]⟩, ty, ps, af, gd⟩).run P w = .ok (.value (.int .i64 n)) w := by
  simp [execOp, resolve, invoke, builtin, Builtin.len_, hx, run_underlying h.u, goInt]
theorem Sl.info {t e sz bys : Nat} {z : Value} (h : Sl P t e sz bys z) : ∃ i, P.info? e = some i ∧ i.zero = some z ∧ i.size = sz ∧ i.bytes = bys := by
  have := h.i
  cases hi : P.info? e with
  | none => simp [hi] at this
  | some i => simp [hi] at this; exact ⟨i, rfl, this.1, this.2.1, this.2.2⟩
theorem r_index {x y : Operand} {t e sz bys : Nat} {z : Value} [h : Sl P t e sz bys z] {a : Addr} {n c : Nat} {k : IntKind} {i : Int} (hx : ev f x = .slice (some a) n c) (hy : ev f y = .int k i) (h0 : 0 ≤ i) (h1 : i < n) :
    (execOp (ev f) ⟨d, .indexAddr t x y, ty, ps, af, gd⟩).run P w = .ok (.value (.pointer (some (a.add (i.toNat * sz))))) w := by
  obtain ⟨ii, hi, _, hs, _⟩ := Sl.info h
  simp [execOp, hx, hy, Instr.indexAt, asIntOf, run_underlying h.u, h0, h1, sizeOf, typeInfo, hi, hs]
/- memory -/
theorem isAgg_one {t : Nat} [h : One P t] : (isAgg t).run P w = .ok false w := by
  obtain ⟨d, hu, hd⟩ := h.u
  unfold isAgg
  cases d <;> simp at hd <;> simp [run_underlying hu]
theorem isAgg_ag {t sz : Nat} [h : Ag P t sz] : (isAgg t).run P w = .ok true w := by
  obtain ⟨d, hu, hd⟩ := h.u
  unfold isAgg
  cases d <;> simp at hd <;> simp [run_underlying hu]
theorem run_loadVar_one {t : Nat} [h : One P t] {a : Addr} {v : Value} (hc : w.cell? a = some v) : (loadVar t a).run P w = .ok v w := by
  simp [loadVar, isAgg_one, hc]
theorem sizeOf_one {t : Nat} [h : One P t] : (sizeOf t).run P w = .ok 1 w := by
  have := h.i
  cases hi : P.info? t with
  | none => simp [hi] at this
  | some i => simp [hi] at this; simp [sizeOf, typeInfo, hi, this]
theorem sizeOf_ag {t sz : Nat} [h : Ag P t sz] : (sizeOf t).run P w = .ok sz w := by
  have := h.i
  cases hi : P.info? t with
  | none => simp [hi] at this
  | some i => simp [hi] at this; simp [sizeOf, typeInfo, hi, this]
theorem run_loadCellsFrom {a : Addr} : ∀ (vs : List Value) (i : Nat) (acc : Array Value), (∀ j v, vs[j]? = some v → w.cell? (a.add (i + j)) = some v) → (loadCellsFrom a i vs.length acc).run P w = .ok (acc ++ vs.toArray) w
  | [], _, acc, _ => by simp [loadCellsFrom]
  | v :: vs, i, acc, h => by
    have h0 := h 0 v rfl
    have ih := run_loadCellsFrom vs (i + 1) (acc.push v) (fun j u hu => by have := h (j + 1) u (by simpa using hu); simpa [Nat.add_assoc, Nat.add_comm 1 j] using this)
    simp only [Nat.add_zero] at h0
    simp [loadCellsFrom, h0, ih]
theorem run_loadVar_ag {t sz : Nat} [h : Ag P t sz] {a : Addr} {vs : List Value} (hl : vs.length = sz) (hc : ∀ j v, vs[j]? = some v → w.cell? (a.add j) = some v) : (loadVar t a).run P w = .ok (.agg vs.toArray) w := by
  have := run_loadCellsFrom (P := P) (w := w) (a := a) vs 0 #[] (by simpa using hc)
  subst hl
  simp [loadVar, isAgg_ag, sizeOf_ag (sz := vs.length), loadCells, this]
theorem r_load {t : Nat} [h : One P t] {x : Operand} {a : Addr} {v : Value} (hx : ev f x = .pointer (some a)) (hc : w.cell? a = some v) :
    (execOp (ev f) ⟨d, .load t x, ty, ps, af, gd⟩).run P w = .ok (.value v) w := by
  simp [execOp, hx, Instr.loadAt, Instr.sureAddr, run_loadVar_one hc]
theorem r_loads {t sz : Nat} [h : Ag P t sz] {x : Operand} {a : Addr} {vs : List Value} (hx : ev f x = .pointer (some a)) (hl : vs.length = sz) (hc : ∀ j v, vs[j]? = some v → w.cell? (a.add j) = some v) :
    (execOp (ev f) ⟨d, .load t x, ty, ps, af, gd⟩).run P w = .ok (.value (.agg vs.toArray)) w := by
  simp [execOp, hx, Instr.loadAt, Instr.sureAddr, run_loadVar_ag hl hc]
theorem r_field {t j off : Nat} [h : FOff P t j off] {x : Operand} {a : Addr} (hx : ev f x = .pointer (some a)) :
    (execOp (ev f) ⟨d, .fieldAddr t x j, ty, ps, af, gd⟩).run P w = .ok (.value (.pointer (some (a.add off)))) w := by
  have hh := h.h
  unfold fOff at hh
  cases hu : P.underlying t with
  | none => simp [hu] at hh
  | some dd =>
    cases dd <;> simp [hu] at hh
    rename_i fs
    cases hf : fs[j]? with
    | none => simp [hf] at hh
    | some fd =>
      cases hi : P.info? fd.type with
      | none => simp [hf, hi] at hh
      | some i =>
        simp [hf, hi] at hh
        simp [execOp, hx, Instr.fieldAt, run_underlying hu, hf, Instr.sureAddr, fieldPlace, sizeOf, typeInfo, hi, hh]
theorem r_nilCheck {x : Operand} {a : Addr} (hx : ev f x = .pointer (some a)) : (execOp (ev f) ⟨d, .nilCheck x, ty, ps, af, gd⟩).run P w = .ok (.value (.pointer (some a))) w := by
  simp [execOp, hx]
theorem r_makeFunc {fn : Fn} {l l' : List Operand} : (execOp (ev f) ⟨d, .makeFunc fn l.toArray l'.toArray, ty, ps, af, gd⟩).run P w = .ok (.value (.func fn (l.map (ev f)).toArray (l'.map (ev f)).toArray)) w := by
  simp [execOp, Instr.makeFunc]
end

/-! ### Calls -/
/-- Function g, called with these arguments in w, returns, and R holds of what it returns. -/
def Ret (P : Program) (g : Nat) (args : List Value) (w : World) (R : Value → World → Prop) : Prop :=
  Calls P g args.toArray w fun e w' => match e with | .returned v => R v w' | _ => False
theorem Ret.mono {P : Program} {g : Nat} {args : List Value} {w : World} {R R' : Value → World → Prop} (h : Ret P g args w R) (hr : ∀ v w', R v w' → R' v w') : Ret P g args w R' :=
  Calls.mono h fun e w' he => by cases e <;> first | exact hr _ _ he | exact he
theorem xc {P : Program} {f : Fr} {w : World} {K : Fr → World → Prop} {d : Option Nat} {ty : Nat} {ps : String} {af : Array Edge} {gd : Option (Nat × Bool)} {x : Operand} {l : List Operand} {at_ : Array Nat}
    {g : Nat} {fn : Func} {first capt : List Value} [hF : Fu P g fn] (hx : ev f x = .func (.func g) first.toArray capt.toArray) (h : Ret P g (first ++ l.map (ev f) ++ capt) w fun v w' => K (putF f d v) w') :
    XO P ⟨d, .call ⟨.value x, l.toArray, at_⟩, ty, ps, af, gd⟩ f w K := by
  have hr : (execOp (ev f) ⟨d, .call ⟨.value x, l.toArray, at_⟩, ty, ps, af, gd⟩).run P w = .ok (.enter g (first ++ l.map (ev f) ++ capt).toArray) w := by
    have h1 : ¬ fn.name = "runtime.NumGoroutine" := by simpa using hF.nm
    have h2 : ¬ fn.body = none := by have := hF.b; intro e; rw [e] at this; cases this
    simp [execOp, resolve, hx, Deferred.ofValue, invoke, callFunc, hF.f, h1, h2]
  simp only [XO, hr, upF]
  exact h
/-- A call of a function by its name. -/
theorem xf {P : Program} {f : Fr} {w : World} {K : Fr → World → Prop} {d : Option Nat} {ty : Nat} {ps : String} {af : Array Edge} {gd : Option (Nat × Bool)} {l : List Operand} {at_ : Array Nat}
    {g : Nat} {fn : Func} [hF : Fu P g fn] (h : Ret P g (l.map (ev f)) w fun v w' => K (putF f d v) w') :
    XO P ⟨d, .call ⟨.value (.func g), l.toArray, at_⟩, ty, ps, af, gd⟩ f w K :=
  xc (first := []) (capt := []) (g := g) (fn := fn) rfl (by simpa using h)

/-! ### A function's body -/
def ent : List Value → Fr
  | [], _ => undef
  | v :: _, 0 => v
  | _ :: l, t + 1 => ent l t
def ResOk (P : Program) (f : Fr) (w : World) : List ResultVar → List Value → Prop
  | [], [] => True
  | .tmp t :: rs, v :: vs => f t = v ∧ ResOk P f w rs vs
  | .cell a t :: rs, v :: vs => (∃ ad, f a = .pointer (some ad) ∧ (loadVar t ad).run P w = .ok v w) ∧ ResOk P f w rs vs
  | _, _ => False
def tup : List Value → Value
  | [v] => v
  | vs => .tuple vs.toArray
/-- What is asked where a function's body ends. -/
def rq (P : Program) (rs : List ResultVar) (R : Value → World → Prop) : Exit → Fr → World → Prop
  | .ret, f, w => ∃ vs, ResOk P f w rs vs ∧ R (tup vs) w
  | .normal, f, w => ∃ vs, ResOk P f w rs vs ∧ R (tup vs) w
  | _, _, _ => False
theorem run_results {P : Program} {n : Nat} {a : Act} {f : Fr} {w : World} (hr : Rel n a f) (g : ResultVar → Sem Value) (g1 : ∀ t, g (.tmp t) = pure (a.tmps.getD t undef))
    (g2 : ∀ ad t, g (.cell ad t) = (do loadVar t (← asAddr (a.tmps.getD ad undef)))) : ∀ (rs : List ResultVar) (vs : List Value), ResOk P f w rs vs → (rs.mapM g).run P w = .ok vs w
  | [], [], _ => by simp
  | [], _ :: _, h => h.elim
  | .tmp t :: rs, [], h => h.elim
  | .cell _ _ :: rs, [], h => h.elim
  | .tmp t :: rs, v :: vs, h => by
    have ih := run_results hr g g1 g2 rs vs h.2
    have hg := hr.get t
    rw [h.1] at hg
    simp only [List.mapM_cons, Sem.run_bind, Sem.run_pure, Result.andThen_ok, ih, hg, g1]
  | .cell ad t :: rs, v :: vs, h => by
    have ih := run_results hr g g1 g2 rs vs h.2
    obtain ⟨⟨a0, h1, h2⟩, _⟩ := h
    have hg := hr.get ad
    rw [h1] at hg
    have h5 : (asAddr (.pointer (some a0))).run P w = .ok a0 w := rfl
    simp only [List.mapM_cons, Sem.run_bind, g2, hg, h5, Sem.run_pure, Result.andThen_ok, h2, ih]
theorem Ret.of_W {P : Program} {g : Nat} {fn : Func} {c : Code} {args : List Value} {w : World} {R : Value → World → Prop} {n : Nat} {rs : List ResultVar}
    (hf : P.funcs[g]? = some fn) (hb : fn.body = some c) (hn : fn.ntmps = n) (hrs : fn.results = rs.toArray) (hl : args.length ≤ n)
    (h : W P n c (rq P rs R) (ent args) w) : Ret P g args w R := by
  unfold W at h
  refine calls_of_wp hf hb (wp_mono (h _ ?_) ?_)
  · refine ⟨by simp [hn]; omega, rfl, fun t => ?_⟩
    have key : ∀ (l : List Value) (t : Nat), l[t]?.getD undef = ent l t := by
      intro l
      induction l with
      | nil => intro t; rfl
      | cons v l ih => intro t; cases t with | zero => rfl | succ t => simpa [ent] using ih t
    rw [← key]
    simp only [Array.getD_eq_getD_getElem?, Array.getElem?_append, List.size_toArray, List.getElem?_toArray]
    by_cases ht : t < args.length
    · simp [ht]
    · simp [ht, Array.getElem?_replicate]; split <;> rfl
  · rintro e a' w' ⟨f', h1, _, h3⟩
    have fin : (∃ vs, ResOk P f' w' rs vs ∧ R (tup vs) w') → a'.defers = [] ∧ ∃ v, (results fn a'.tmps).run P w' = .ok v w' ∧ R v w' := by
      rintro ⟨vs, hv, hR⟩
      refine ⟨h1.defers, tup vs, ?_, hR⟩
      simp only [results, hrs, List.mapM_toArray, Sem.run_bind, Sem.run_map]
      rw [run_results h1 _ (fun _ => rfl) (fun _ _ => rfl) rs vs hv]
      cases vs with
      | nil => rfl
      | cons v vs => cases vs with | nil => rfl | cons u us => rfl
    cases e with
    | normal => exact fin h3
    | ret => exact fin h3
    | exit id => exact h3.elim
    | goto l => exact h3.elim
    | panic c => exact h3.elim
    | outgrown => exact h3.elim
attribute [irreducible] Ret
end Go.Lg
/- Memory: what is read (Arr), what the call owns (Blk, ownsRow), steps of the world, and the operations that make or write memory. -/
namespace Go.Lg
open Go.RowKit

/-! ### Steps of the world: only blocks of L, and new ones, have turned -/
structure Step (L : List Nat) (w w' : World) : Prop where
  os : w'.os = w.os
  tape : w'.tape = w.tape
  output : w'.output = w.output
  size : w.heap.size ≤ w'.heap.size
  block : ∀ k, k < w.heap.size → k ∉ L → w'.heap[k]? = w.heap[k]?
theorem Step.refl (L : List Nat) (w : World) : Step L w w := ⟨rfl, rfl, rfl, Nat.le_refl _, fun _ _ _ => rfl⟩
theorem Step.drew (L : List Nat) (w : World) : Step L w { w with drawn := w.drawn + 1 } := ⟨rfl, rfl, rfl, Nat.le_refl _, fun _ _ _ => rfl⟩
theorem Step.mono {L L' : List Nat} {w w' : World} (h : Step L w w') (hL : ∀ b ∈ L, b ∈ L') : Step L' w w' :=
  ⟨h.os, h.tape, h.output, h.size, fun k hk hn => h.block k hk (fun hm => hn (hL k hm))⟩
theorem Step.any {L : List Nat} {w w' : World} (h : Step [] w w') : Step L w w' := h.mono (fun _ hb => by cases hb)
/-- One step more, of blocks that are new since w0 or of L. -/
theorem Step.then {L L' : List Nat} {w0 w w' : World} (h : Step L w0 w) (k : Step L' w w') (hn : ∀ b ∈ L', b ∈ L ∨ w0.heap.size ≤ b) : Step L w0 w' :=
  ⟨k.os.trans h.os, k.tape.trans h.tape, k.output.trans h.output, Nat.le_trans h.size k.size, fun i hi hL =>
    (k.block i (Nat.lt_of_lt_of_le hi h.size) (fun hm => by rcases hn i hm with h1 | h1; exact hL h1; omega)).trans (h.block i hi hL)⟩
theorem Step.trans {L : List Nat} {w0 w w' : World} (h : Step L w0 w) (k : Step [] w w') : Step L w0 w' := h.then k (fun _ hb => by cases hb)
theorem Step.trans' {L : List Nat} {w0 w w' : World} (h : Step L w0 w) (k : Step L w w') : Step L w0 w' := h.then k (fun _ hb => .inl hb)
theorem Step.below {w w' : World} (h : Step [] w w') : Below w.heap.size w w' := ⟨h.os, h.tape, h.output, h.size, fun k hk => h.block k hk (by simp)⟩
theorem Step.of_below {w w' : World} (h : Below w.heap.size w w') : Step [] w w' := ⟨h.os, h.tape, h.output, h.size, fun k hk _ => h.block k hk⟩
theorem Step.of_grown {w w' : World} {row : Option Nat} (h : w.grownBy w' row) : Step row.toList w w' :=
  ⟨h.os, h.tape, h.output, h.size, fun k hk hn => h.block k hk (fun e => hn (by simp [← e]))⟩
theorem al_old (w : World) (o : Obj) (k : Nat) (h : k < w.heap.size) : (w.alloc o).heap[k]? = w.heap[k]? := by
  show (w.heap.push o)[k]? = _
  rw [Array.getElem?_push, if_neg (by omega)]
theorem al_new (w : World) (o : Obj) : (w.alloc o).heap[w.heap.size]? = some o := by
  show (w.heap.push o)[w.heap.size]? = _
  simp
theorem al_size (w : World) (o : Obj) : (w.alloc o).heap.size = w.heap.size + 1 := by show (w.heap.push o).size = _; simp
theorem Step.alloc (w : World) (o : Obj) : Step [] w (w.alloc o) := ⟨rfl, rfl, rfl, by rw [al_size]; omega, fun k hk _ => al_old w o k hk⟩
theorem Step.setRow (w : World) (g : Nat) (cs : Array Value) : Step [g] w (w.setRow g cs) :=
  ⟨rfl, rfl, rfl, by simp [World.setRow], fun k _ hn => setRow_other w g k cs (fun e => hn (by simp [e]))⟩

/-! ### Cells -/
def cel (H : Array Obj) (a : Addr) : Option Value := match H[a.block]? with
  | some (.cells c _ _) => if a.spot.isSome then none else c[a.off]?
  | _ => none
theorem cel_world (w : World) (a : Addr) : w.cell? a = cel w.heap a := rfl
/-- The cells from address a on; its block is none of L. -/
structure At (L : List Nat) (H : Array Obj) (a : Addr) (us : List Value) : Prop where
  out : a.block ∉ L
  lt : a.block < H.size
  cell : ∀ j u, us[j]? = some u → cel H (a.add j) = some u
theorem add_block (a : Addr) (j : Nat) : (a.add j).block = a.block := by unfold Addr.add; split <;> rfl
theorem cel_step {L : List Nat} {w w' : World} (h : Step L w w') {a : Addr} (ho : a.block ∉ L) (hl : a.block < w.heap.size) : cel w'.heap a = cel w.heap a := by
  unfold cel; rw [h.block _ hl ho]
theorem At.step {L X : List Nat} {w w' : World} {a : Addr} {us : List Value} (h : At L w.heap a us) (hs : Step X w w') (hX : ∀ b ∈ X, b ∈ L) : At L w'.heap a us :=
  ⟨h.out, Nat.lt_of_lt_of_le h.lt hs.size, fun j u hu => by rw [cel_step (L := X) hs (by rw [add_block]; exact fun hm => h.out (hX _ hm)) (by rw [add_block]; exact h.lt)]; exact h.cell j u hu⟩
theorem At.ext {L : List Nat} {w w' : World} {a : Addr} {us : List Value} (h : At L w.heap a us) (hs : Step [] w w') : At L w'.heap a us := h.step hs (fun _ hb => by cases hb)
theorem At.st {L : List Nat} {w w' : World} {a : Addr} {us : List Value} (h : At L w.heap a us) (hs : Step L w w') : At L w'.heap a us := h.step hs (fun _ hb => hb)
theorem At.one {L : List Nat} {w : World} {a : Addr} {u : Value} (h : At L w.heap a [u]) : w.cell? a = some u := by
  have := h.cell 0 u rfl
  simp only [Addr.add, if_true] at this
  exact this
theorem At.cells {L : List Nat} {w : World} {a : Addr} {us : List Value} (h : At L w.heap a us) : ∀ j v, us[j]? = some v → w.cell? (a.add j) = some v := h.cell
theorem Addr.add_add (a : Addr) (i j : Nat) : (a.add i).add j = a.add (i + j) := by
  unfold Addr.add
  by_cases hi : i = 0
  · subst hi; simp
  · by_cases hj : j = 0
    · subst hj; simp
    · simp [hi, hj, Nat.add_assoc]
/-- A field of what lies at a. -/
theorem At.fld {L : List Nat} {H : Array Obj} {a : Addr} {us : List Value} (h : At L H a us) (j : Nat) (u : Value) (hu : us[j]? = some u) : At L H (a.add j) [u] :=
  ⟨by rw [add_block]; exact h.out, by rw [add_block]; exact h.lt, fun i v hv => by
    cases i with
    | zero => simp at hv; subst hv; rw [Addr.add_add, Nat.add_zero]; exact h.cell j u hu
    | succ i => simp at hv⟩
theorem At.up {L L' : List Nat} {H : Array Obj} {a : Addr} {us : List Value} (h : At L H a us) (hL : ∀ b ∈ L', b ∈ L ∨ H.size ≤ b) : At L' H a us :=
  ⟨fun hm => by rcases hL _ hm with h1 | h1; exact h.out h1; have := h.lt; omega, h.lt, h.cell⟩

/-! ### Slices that are read -/
/-- The slice v has n elements of sz cells each: cs; its block is none of L. -/
def Arr (L : List Nat) (H : Array Obj) (v : Value) (n sz : Nat) (cs : List Value) : Prop :=
  cs.length = n * sz ∧ n ≤ 1099511627776 ∧ ((v = .slice none 0 0 ∧ n = 0) ∨ ∃ a cap, v = .slice (some a) n cap ∧ n ≤ cap ∧ At L H a cs)
theorem Arr.step {L X : List Nat} {w w' : World} {v : Value} {n sz : Nat} {cs : List Value} (h : Arr L w.heap v n sz cs) (hs : Step X w w') (hX : ∀ b ∈ X, b ∈ L) : Arr L w'.heap v n sz cs :=
  ⟨h.1, h.2.1, h.2.2.imp id fun ⟨a, cap, h1, h2, h3⟩ => ⟨a, cap, h1, h2, h3.step hs hX⟩⟩
theorem Arr.ext {L : List Nat} {w w' : World} {v : Value} {n sz : Nat} {cs : List Value} (h : Arr L w.heap v n sz cs) (hs : Step [] w w') : Arr L w'.heap v n sz cs := h.step hs (fun _ hb => by cases hb)
theorem Arr.st {L : List Nat} {w w' : World} {v : Value} {n sz : Nat} {cs : List Value} (h : Arr L w.heap v n sz cs) (hs : Step L w w') : Arr L w'.heap v n sz cs := h.step hs (fun _ hb => hb)
theorem Arr.up {L L' : List Nat} {H : Array Obj} {v : Value} {n sz : Nat} {cs : List Value} (h : Arr L H v n sz cs) (hL : ∀ b ∈ L', b ∈ L ∨ H.size ≤ b) : Arr L' H v n sz cs :=
  ⟨h.1, h.2.1, h.2.2.imp id fun ⟨a, cap, h1, h2, h3⟩ => ⟨a, cap, h1, h2, h3.up hL⟩⟩
theorem Arr.nil (L : List Nat) (H : Array Obj) (sz : Nat) : Arr L H (.slice none 0 0) 0 sz [] := ⟨by simp, by omega, .inl ⟨rfl, rfl⟩⟩
theorem Arr.shape {L : List Nat} {H : Array Obj} {v : Value} {n sz : Nat} {cs : List Value} (h : Arr L H v n sz cs) : ∃ a cap, v = .slice a n cap := by
  rcases h.2.2 with ⟨h1, h2⟩ | ⟨a, cap, h1, _⟩
  · exact ⟨none, 0, by rw [h1, h2]⟩
  · exact ⟨some a, cap, h1⟩
theorem Arr.one {L : List Nat} {H : Array Obj} {v : Value} {n sz : Nat} {cs : List Value} (h : Arr L H v n sz cs) : v.oneCell' = true := by obtain ⟨a, cap, rfl⟩ := h.shape; rfl
theorem Arr.cells {L : List Nat} {H : Array Obj} {v : Value} {n sz : Nat} {cs : List Value} (h : Arr L H v n sz cs) : v.cells = [v].toArray := by obtain ⟨a, cap, rfl⟩ := h.shape; rfl
theorem Arr.le {L : List Nat} {H : Array Obj} {v : Value} {n sz : Nat} {cs : List Value} (h : Arr L H v n sz cs) : n ≤ 1099511627776 := h.2.1
/-- Of an element. -/
theorem Arr.at {L : List Nat} {H : Array Obj} {v : Value} {n sz : Nat} {cs : List Value} (h : Arr L H v n sz cs) {i : Nat} (hi : i < n) :
    ∃ a cap, v = .slice (some a) n cap ∧ At L H (a.add (i * sz)) ((cs.drop (i * sz)).take sz) := by
  rcases h.2.2 with ⟨_, h2⟩ | ⟨a, cap, h1, _, h3⟩
  · omega
  · refine ⟨a, cap, h1, by rw [add_block]; exact h3.out, by rw [add_block]; exact h3.lt, fun j u hu => ?_⟩
    rw [Addr.add_add]
    refine h3.cell _ u ?_
    rw [List.getElem?_take] at hu
    split at hu
    · simpa using hu
    · cases hu
abbrev Ints (L : List Nat) (H : Array Obj) (v : Value) (l : List Int) : Prop := Arr L H v l.length 1 (l.map (.int .i64))
theorem Ints.at {L : List Nat} {H : Array Obj} {v : Value} {l : List Int} (h : Ints L H v l) {i : Nat} (hi : i < l.length) :
    ∃ a cap, v = .slice (some a) l.length cap ∧ At L H (a.add (i * 1)) [.int .i64 l[i]] := by
  obtain ⟨a, cap, h1, h2⟩ := Arr.at h hi
  refine ⟨a, cap, h1, ?_⟩
  have : ((l.map (Value.int .i64)).drop (i * 1)).take 1 = [.int .i64 l[i]] := by
    rw [Nat.mul_one, List.drop_eq_getElem_cons (by simpa using hi)]; simp
  rw [this] at h2
  exact h2

/-! ### What the call owns -/
/-- Block b, of type T, holds just these cells. -/
def Blk (H : Array Obj) (b T : Nat) (cs : List Value) : Prop := H[b]? = some (.cells cs.toArray T (0, 0))
theorem Blk.lt {H : Array Obj} {b T : Nat} {cs : List Value} (h : Blk H b T cs) : b < H.size := (Array.getElem?_eq_some_iff.1 h).1
theorem Blk.step {X : List Nat} {w w' : World} {b T : Nat} {cs : List Value} (h : Blk w.heap b T cs) (hs : Step X w w') (hb : b ∉ X) : Blk w'.heap b T cs := by
  unfold Blk; rw [hs.block b h.lt hb]; exact h
theorem Blk.ext {w w' : World} {b T : Nat} {cs : List Value} (h : Blk w.heap b T cs) (hs : Step [] w w') : Blk w'.heap b T cs := h.step hs (by simp)
theorem Blk.cell {H : Array Obj} {b T : Nat} {cs : List Value} (h : Blk H b T cs) (j : Nat) : cel H ⟨b, j, none⟩ = cs[j]? := by
  unfold Blk at h; simp [cel, h]
theorem lit_add (b j : Nat) : (⟨b, 0, none⟩ : Addr).add j = ⟨b, j, none⟩ := by unfold Addr.add; split <;> simp_all
theorem lit_add' (b i j : Nat) : (⟨b, i, none⟩ : Addr).add j = ⟨b, i + j, none⟩ := by unfold Addr.add; split <;> simp_all
theorem Blk.at {L : List Nat} {H : Array Obj} {b T : Nat} {cs : List Value} (h : Blk H b T cs) (hb : b ∉ L) : At L H ⟨b, 0, none⟩ cs :=
  ⟨hb, h.lt, fun j u hu => by rw [lit_add, h.cell]; exact hu⟩
theorem Blk.arr {L : List Nat} {H : Array Obj} {b T : Nat} {cs : List Value} (h : Blk H b T cs) (hb : b ∉ L) {n cap sz : Nat} (hl : cs.length = n * sz) (hn : n ≤ 1099511627776) (hc : n ≤ cap) :
    Arr L H (.slice (some ⟨b, 0, none⟩) n cap) n sz cs := ⟨hl, hn, .inr ⟨_, _, rfl, hc, h.at hb⟩⟩

def ob : Value → List Nat
  | .slice (some a) _ _ => [a.block]
  | _ => []
theorem ob_own (v : Value) : ob v = v.ownBlock.toList := by cases v <;> try rfl
                                                            rename_i a _ _; cases a <;> rfl
theorem own_step {X : List Nat} {w w' : World} {base e sz n : Nat} {v : Value} {cs : List Value} (h : w.ownsRow base e sz v n cs) (hs : Step X w w') (hX : ∀ b ∈ ob v, b ∉ X) : w'.ownsRow base e sz v n cs := by
  refine ⟨h.1, h.2.imp id fun ⟨g, cap, cur, h1, h2, h3, h4⟩ => ⟨g, cap, cur, h1, h2, ?_, h4⟩⟩
  rw [hs.block g (Array.getElem?_eq_some_iff.1 h3).1 (hX g (by rw [h1]; simp [ob]))]; exact h3
theorem own_ext {w w' : World} {base e sz n : Nat} {v : Value} {cs : List Value} (h : w.ownsRow base e sz v n cs) (hs : Step [] w w') : w'.ownsRow base e sz v n cs := own_step h hs (fun _ _ => by simp)
theorem own_ge {w : World} {base e sz n : Nat} {v : Value} {cs : List Value} (h : w.ownsRow base e sz v n cs) : ∀ b ∈ ob v, base ≤ b ∧ b < w.heap.size := by
  intro b hb
  rcases h.2 with ⟨h1, _⟩ | ⟨g, cap, cur, h1, h2, h3, _⟩
  · subst h1; simp [ob] at hb
  · subst h1; simp [ob] at hb; subst hb; exact ⟨h2, (Array.getElem?_eq_some_iff.1 h3).1⟩
theorem own_base {w : World} {base base' e sz n : Nat} {v : Value} {cs : List Value} (h : w.ownsRow base e sz v n cs) (hb : base' ≤ base) : w.ownsRow base' e sz v n cs :=
  ⟨h.1, h.2.imp id fun ⟨g, cap, cur, h1, h2, h3⟩ => ⟨g, cap, cur, h1, Nat.le_trans hb h2, h3⟩⟩
/-- A slice of the call's own is a slice that can be read. -/
theorem own_arr {L : List Nat} {w : World} {base e sz n : Nat} {v : Value} {cs : List Value} (h : w.ownsRow base e sz v n cs) (hn : n ≤ 1099511627776) (hL : ∀ b ∈ ob v, b ∉ L) : Arr L w.heap v n sz cs := by
  refine ⟨h.1, hn, ?_⟩
  rcases h.2 with h1 | ⟨g, cap, cur, h1, h2, h3, h4, h5, h6, h7⟩
  · exact .inl h1
  · refine .inr ⟨_, _, h1, h4, hL g (by rw [h1]; simp [ob]), (Array.getElem?_eq_some_iff.1 h3).1, fun j u hu => ?_⟩
    rw [lit_add]
    unfold cel; simp only [h3]
    rw [← h7, List.getElem?_take] at hu
    split at hu
    · simpa using hu
    · cases hu
theorem own_nil (w : World) (base e sz : Nat) : w.ownsRow base e sz (.slice none 0 0) 0 [] := World.ownsRow_nil w base e sz
/-- A new slice, full. -/
theorem Blk.own {w : World} {b T sz n : Nat} {cs : List Value} (h : Blk w.heap b T cs) (hl : cs.length = n * sz) (hn : n ≤ 1099511627776) {base : Nat} (hb : base ≤ b) : w.ownsRow base T sz (.slice (some ⟨b, 0, none⟩) n n) n cs :=
  ⟨hl, .inr ⟨b, n, cs.toArray, rfl, hb, h, Nat.le_refl _, by simp only [maxLen]; omega, by simp [hl], by simp [← hl]⟩⟩

/-! ### Operations on slices that are read -/
section
variable {P : Program} {ops : List Oper} {K : Fr → World → Prop} {f : Fr} {w : World} {d : Option Nat} {ty : Nat} {ps : String} {af : Array Edge} {gd : Option (Nat × Bool)} {l : List Oper}
theorem r_lenA {x : Operand} {t e sz' bys : Nat} {z : Value} [Sl P t e sz' bys z] {L : List Nat} {n sz : Nat} {cs : List Value} {v : Value} {H : Array Obj} (h : Arr L H v n sz cs) (hv : ev f x = v) :
    (execOp (ev f) ⟨d, .call ⟨.builtin .len, #[x], #[t]⟩, ty, ps, af, gd⟩).run P w = .ok (.value (.int .i64 n)) w := by
  obtain ⟨a, cap, h1⟩ := h.shape
  exact r_len (hv.trans h1)
/-- An element's address. -/
theorem xi {x y : Operand} {t e sz bys : Nat} {z : Value} [Sl P t e sz bys z] {L : List Nat} {n : Nat} {cs : List Value} {v : Value} {k : IntKind} {i : Nat}
    (h : Arr L w.heap v n sz cs) (hv : ev f x = v) (hy : ev f y = .int k i) (hi : i < n)
    (hK : ∀ a, At L w.heap a ((cs.drop (i * sz)).take sz) → XL P ops K l (putF f d (.pointer (some a))) w) (hg : gdF ops f ⟨d, .indexAddr t x y, ty, ps, af, gd⟩ = true := by rfl) :
    XL P ops K (⟨d, .indexAddr t x y, ty, ps, af, gd⟩ :: l) f w := by
  obtain ⟨a, cap, h1, h2⟩ := h.at hi
  refine xl hg (xv (r_index (hv.trans h1) hy (by omega) (by omega)) (hK _ ?_))
  simpa using h2
/-- Of integers. -/
theorem xii {x y : Operand} {t e bys : Nat} {z : Value} [Sl P t e 1 bys z] {L : List Nat} {li : List Int} {v : Value} {k : IntKind} {i : Nat}
    (h : Ints L w.heap v li) (hv : ev f x = v) (hy : ev f y = .int k i) (hi : i < li.length)
    (hK : ∀ a, At L w.heap a [.int .i64 li[i]] → XL P ops K l (putF f d (.pointer (some a))) w) (hg : gdF ops f ⟨d, .indexAddr t x y, ty, ps, af, gd⟩ = true := by rfl) :
    XL P ops K (⟨d, .indexAddr t x y, ty, ps, af, gd⟩ :: l) f w := by
  obtain ⟨a, cap, h1, h2⟩ := Ints.at h hi
  refine xl hg (xv (r_index (hv.trans h1) hy (by omega) (by omega)) (hK _ ?_))
  simpa using h2
theorem r_loadA {t : Nat} [One P t] {x : Operand} {a : Addr} {L : List Nat} {u : Value} (h : At L w.heap a [u]) (hx : ev f x = .pointer (some a)) :
    (execOp (ev f) ⟨d, .load t x, ty, ps, af, gd⟩).run P w = .ok (.value u) w := r_load hx h.one
theorem r_loadsA {t sz : Nat} [Ag P t sz] {x : Operand} {a : Addr} {L : List Nat} {us : List Value} (h : At L w.heap a us) (hx : ev f x = .pointer (some a)) (hl : us.length = sz) :
    (execOp (ev f) ⟨d, .load t x, ty, ps, af, gd⟩).run P w = .ok (.value (.agg us.toArray)) w := r_loads hx hl h.cells
theorem r_loadB {t : Nat} [One P t] {x : Operand} {b T j : Nat} {cs : List Value} {u : Value} (h : Blk w.heap b T cs) (hx : ev f x = .pointer (some ⟨b, j, none⟩)) (hj : cs[j]? = some u) :
    (execOp (ev f) ⟨d, .load t x, ty, ps, af, gd⟩).run P w = .ok (.value u) w := r_load hx (by rw [cel_world, h.cell]; exact hj)
theorem r_loadsB {t sz : Nat} [Ag P t sz] {x : Operand} {b T : Nat} {cs : List Value} (h : Blk w.heap b T cs) (hx : ev f x = .pointer (some ⟨b, 0, none⟩)) (hl : cs.length = sz) :
    (execOp (ev f) ⟨d, .load t x, ty, ps, af, gd⟩).run P w = .ok (.value (.agg cs.toArray)) w := r_loads hx hl (h.at (L := []) (by simp)).cells
theorem r_fieldB {t j off : Nat} [FOff P t j off] {x : Operand} {b o : Nat} (hx : ev f x = .pointer (some ⟨b, o, none⟩)) :
    (execOp (ev f) ⟨d, .fieldAddr t x j, ty, ps, af, gd⟩).run P w = .ok (.value (.pointer (some ⟨b, o + off, none⟩))) w := by
  rw [← lit_add']; exact r_field hx
end

/-! ### Operations that make memory -/
section
variable {P : Program} {K : Fr → World → Prop} {f : Fr} {w : World} {d : Option Nat} {ty : Nat} {ps : String} {af : Array Edge} {gd : Option (Nat × Bool)}
theorem o_box {t : Nat} {x : Operand} {us : List Value} (hx : (ev f x).cells = us.toArray)
    (hK : ∀ b w', Step [] w w' → w.heap.size ≤ b → Blk w'.heap b t us → K (putF f d (.pointer (some ⟨b, 0, none⟩))) w') : XO P ⟨d, .box t x, ty, ps, af, gd⟩ f w K := by
  have hr : (execOp (ev f) ⟨d, .box t x, ty, ps, af, gd⟩).run P w = .ok (.value (.pointer (some ⟨w.heap.size, 0, none⟩))) (w.alloc (.cells us.toArray t)) := by
    simp [execOp, Instr.box, newVar, newRow, hx]
  exact xv hr (hK _ _ (Step.alloc w _) (Nat.le_refl _) (al_new w _))
theorem o_alloc {t : Nat} {z : Value} [h : Ze P t z] {us : List Value} (hz : z.cells = us.toArray)
    (hK : ∀ b w', Step [] w w' → w.heap.size ≤ b → Blk w'.heap b t us → K (putF f d (.pointer (some ⟨b, 0, none⟩))) w') : XO P ⟨d, .alloc t, ty, ps, af, gd⟩ f w K := by
  have hr : (execOp (ev f) ⟨d, .alloc t, ty, ps, af, gd⟩).run P w = .ok (.value (.pointer (some ⟨w.heap.size, 0, none⟩))) (w.alloc (.cells us.toArray t)) := by
    have hi := h.i
    cases hq : P.info? t with
    | none => simp [hq] at hi
    | some i =>
      simp [hq] at hi
      simp [execOp, Instr.alloc, newVar, newRow, zeroValue, typeInfo, hq, hi, hz]
  exact xv hr (hK _ _ (Step.alloc w _) (Nat.le_refl _) (al_new w _))
def CellsOf (sz : Nat) : List Value → List (List Value) → Prop
  | [], [] => True
  | v :: vs, u :: us => v.cells = u.toArray ∧ u.length = sz ∧ CellsOf sz vs us
  | _, _ => False
theorem CellsOf.length {sz : Nat} : ∀ {vs : List Value} {us : List (List Value)}, CellsOf sz vs us → us.length = vs.length ∧ us.flatten.length = vs.length * sz
  | [], [], _ => by simp
  | [], _ :: _, h => h.elim
  | _ :: _, [], h => h.elim
  | v :: vs, u :: us, h => by
    obtain ⟨h1, h2⟩ := CellsOf.length h.2.2
    simp [h1, h2, h.2.1, Nat.add_mul, Nat.add_comm]
theorem fill_cells {sz : Nat} : ∀ (vs : List Value) (us : List (List Value)) (i0 : Nat) (pre rest : List Value), CellsOf sz vs us → pre.length = i0 * sz → rest.length = vs.length * sz →
    Instr.fill (fun i => some (i * sz, sz)) (pre ++ rest).toArray ((vs.zipIdx i0).map fun x => (x.2, x.1)) = some (pre ++ us.flatten).toArray
  | [], [], i0, pre, rest, _, _, hr => by
    have : rest = [] := List.eq_nil_of_length_eq_zero (by simpa using hr)
    subst this; simp [Instr.fill]
  | [], _ :: _, _, _, _, h, _, _ => h.elim
  | _ :: _, [], _, _, _, h, _, _ => h.elim
  | v :: vs, u :: us, i0, pre, rest, h, hp, hr => by
    obtain ⟨h1, h2, h3⟩ := h
    have hr' : sz ≤ rest.length := by rw [hr]; simp [Nat.add_mul]
    have ih := fill_cells vs us (i0 + 1) (pre ++ u) (rest.drop sz) h3 (by simp [hp, h2, Nat.add_mul]) (by simp only [List.length_drop, hr, List.length_cons, Nat.add_mul, Nat.one_mul]; omega)
    simp only [List.zipIdx_cons, List.map_cons]
    unfold Instr.fill
    have hsz : v.cells.size = sz := by rw [h1]; simp [h2]
    simp only [hsz]
    rw [if_neg (by simp; omega)]
    have key : v.cells.zipIdx.foldl (fun cs (x : Value × Nat) => cs.setIfInBounds (i0 * sz + x.2) x.1) (pre ++ rest).toArray = (pre ++ u ++ rest.drop sz).toArray := by
      rw [← Array.foldl_toList, Array.toList_zipIdx, h1]
      obtain ⟨g1, g2⟩ := Great.foldl_set (i0 * sz) u 0 (pre ++ rest).toArray
      apply Array.ext'
      apply List.ext_getElem?
      intro k
      have g3 := g2 k
      simp only [Array.getElem?_toList]
      rw [g3]
      simp only [Nat.add_zero, List.size_toArray, List.length_append, List.getElem?_toArray]
      split
      · rename_i hc
        rw [List.append_assoc, List.getElem?_append_right (by omega), List.getElem?_append_left (by omega), ← hp]
      · rename_i hc
        by_cases hk : k < pre.length
        · rw [List.append_assoc, List.getElem?_append_left hk, List.getElem?_append_left hk]
        · rw [List.append_assoc, List.getElem?_append_right (by omega), List.getElem?_append_right (by omega)]
          by_cases hk2 : k < pre.length + sz
          · exfalso; apply hc; omega
          · rw [List.getElem?_append_right (by omega), List.getElem?_drop]
            congr 1; omega
    have ih' := ih
    rw [List.append_assoc pre u] at key
    rw [show (v.cells.zipIdx.foldl (fun cs (x : Value × Nat) => cs.setIfInBounds (i0 * sz + x.2) x.1) (pre ++ rest).toArray) = (pre ++ u ++ rest.drop sz).toArray by rw [key, List.append_assoc]]
    rw [ih]
    simp
theorem zipIdx_of (f : Fr) : ∀ (ps : List (Nat × Operand)) (i : Nat), ps.map (·.1) = List.range' i ps.length → (ps.map fun x => (x.1, ev f x.2)) = ((ps.map fun x => ev f x.2).zipIdx i).map fun x => (x.2, x.1)
  | [], _, _ => rfl
  | p :: ps, i, h => by
    simp only [List.map_cons, List.length_cons, List.range'_succ, List.cons.injEq] at h
    simp only [List.map_cons, List.zipIdx_cons]
    rw [zipIdx_of f ps (i + 1) h.2, h.1]
/-- A slice literal, every place written. -/
theorem o_lits {t e sz bys : Nat} {z : Value} [h : Sl P t e sz bys z] {n : Nat} {parts : List (Nat × Operand)} {us : List (List Value)} (hp : parts.map (·.1) = List.range' 0 n) (hn : parts.length = n) (h0 : 0 < n) (hs : n * sz ≤ 1000000)
    (hc : CellsOf sz (parts.map fun x => ev f x.2) us)
    (hK : ∀ b w', Step [] w w' → w.heap.size ≤ b → Blk w'.heap b e us.flatten → K (putF f d (.slice (some ⟨b, 0, none⟩) n n)) w') : XO P ⟨d, .buildSlice t n parts.toArray, ty, ps, af, gd⟩ f w K := by
  obtain ⟨ie, hie, hz, hsz, _⟩ := Sl.info h
  subst hn
  have hpos := h.pos
  have hm : 0 < parts.length * sz := Nat.mul_pos h0 hpos
  have hfill : Instr.fill (fun i => some (i * ie.size, ie.size)) ((Array.range (parts.length * ie.size)).map (z.cells[· % z.cells.size]!)) (parts.toArray.map fun (i, x) => (i, ev f x)).toList = some us.flatten.toArray := by
    rw [hsz]
    have := fill_cells (parts.map fun x => ev f x.2) us 0 [] ((Array.range (parts.length * sz)).map (z.cells[· % z.cells.size]!)).toList hc (by simp) (by simp)
    simp only [List.nil_append, Array.toArray_toList] at this
    rw [← this, ← zipIdx_of f parts 0 hp]
    simp
  have hr : (execOp (ev f) ⟨d, .buildSlice t parts.length parts.toArray, ty, ps, af, gd⟩).run P w = .ok (.value (.slice (some ⟨w.heap.size, 0, none⟩) parts.length parts.length)) (w.alloc (.cells us.flatten.toArray e)) := by
    have := run_buildSlice (P := P) w t e parts.length (parts.toArray.map fun (i, x) => (i, ev f x)) us.flatten.toArray ie z h.u hie hz (by rw [hsz]; omega) (by rw [hsz]; omega) hfill
    simp only [execOp, Sem.run_bind, this, Result.andThen_ok, Sem.run_pure]
  exact xv hr (hK _ _ (Step.alloc w _) (Nat.le_refl _) (al_new w _))

/-- append onto a slice of the call's own. -/
theorem run_append_my {base t ty e : Nat} {sz bys : Nat} {z : Value} [h : Sl P t e sz bys z] {v : Value} {n : Nat} {cs : List Value} (hown : w.ownsRow base e sz v n cs)
    {a : Addr} {m c : Nat} {news : List Value} (hl : news.length = m * sz) (hnews : ∀ j u, news[j]? = some u → w.cell? (a.add j) = some u) (h1 : ∀ u ∈ news, u.oneCell' = true)
    (hb : n + m ≤ 1099511627776) (hby : bys ≤ 128) (hbase : base ≤ w.heap.size) :
    ∃ v' w', (Builtin.append_ #[t, t] ty #[v, .slice (some a) m c]).run P w = .ok v' w' ∧ w'.ownsRow base e sz v' (n + m) (cs ++ news) ∧ Step (ob v) w w' ∧ (∀ b ∈ ob v', b ∈ ob v ∨ w.heap.size ≤ b) := by
  obtain ⟨i, hi, hz, hsz, hbys⟩ := Sl.info h
  have hbytes : (n + m) * bys ≤ 140737488355328 := Nat.le_trans (Nat.mul_le_mul hb hby) (by omega)
  have h63 : n + m ≤ maxLen := by simp only [maxLen]; omega
  by_cases hg : ∃ g cap cur, v = .slice (some ⟨g, 0, none⟩) n cap ∧ w.heap[g]? = some (.cells cur e (0, 0)) ∧ n + m ≤ cap
  · obtain ⟨v', w', hr, ho, hgr, _⟩ := run_append_own (P := P) w base t ty e i z sz bys h.u hi hz hsz hbys h.zs h.pos v n cs hown a m c news hl hnews h1 h63 hbytes hbase
    refine ⟨v', w', hr, ho, by rw [ob_own]; exact Step.of_grown hgr, ?_⟩
    obtain ⟨g, cap, cur, rfl, hgg, hroom⟩ := hg
    rcases hown.2 with ⟨h2, _⟩ | ⟨g2, cap2, cur2, h2, h3, h4, h5, h6, h7, h8⟩
    · cases h2
    · cases h2
      have hfit : n * i.size + news.length ≤ cur2.size := by rw [hl, h7, hsz, ← Nat.add_mul]; exact Nat.mul_le_mul_right _ hroom
      have hr2 := run_append_room (P := P) w t ty e i h.u hi g n cap cur2 h4 a m c news (by rw [hsz]; exact hl) hnews h1 hroom hfit
      rw [hr2] at hr
      cases hr
      intro b hb'
      exact .inl hb'
  · have new : ∀ (old : Nat), old < n + m → ∀ o', o' = (Obj.cells (cs.toArray ++ news.toArray ++ Builtin.zeroCells z.cells (grownCap w (n + m) old e - (n + m))) e) →
        (w.drew.alloc o').ownsRow base e sz (.slice (some ⟨w.heap.size, 0, none⟩) (n + m) (grownCap w (n + m) old e)) (n + m) (cs ++ news) := by
      intro old ho o' ho'
      subst ho'
      have hge := grownCap_ge w (n + m) old e
      have hcm : grownCap w (n + m) old e ≤ maxLen := grownCap_le_maxLen w (n + m) old e h63
      have hlen : (cs ++ news).length = (n + m) * sz := by rw [List.length_append, hown.1, hl, Nat.add_mul]
      refine ⟨hlen, .inr ⟨w.heap.size, _, _, rfl, hbase, al_new w.drew _, hge, hcm, ?_, ?_⟩⟩
      · simp only [Array.size_append, List.size_toArray, size_zeroCells, h.zs, hown.1, hl, ← Nat.add_mul]
        congr 1; omega
      · simp only [Array.toList_append, List.append_assoc]
        rw [← List.append_assoc, ← hlen]
        exact List.take_left
    have stp : ∀ o', Step (ob v) w (w.drew.alloc o') := fun o' => ⟨rfl, rfl, rfl, by rw [al_size]; exact Nat.le_succ _, fun k hk _ => al_old w.drew o' k hk⟩
    have fin : ∀ (b : Nat), b ∈ ob (.slice (some ⟨w.heap.size, 0, none⟩) (n + m) 0) → b ∈ ob v ∨ w.heap.size ≤ b := fun b hb' => by simp [ob] at hb'; omega
    rcases hown.2 with ⟨rfl, rfl⟩ | ⟨g, cap, cur, rfl, hbg, hgg, hnc, hcm, hcs, htake⟩
    · have hx : cs = [] := List.eq_nil_of_length_eq_zero (by simpa using hown.1)
      subst hx
      by_cases hm : m = 0
      · subst hm
        have hn : news = [] := List.eq_nil_of_length_eq_zero (by simpa using hl)
        subst hn
        refine ⟨.slice none 0 0, w, ?_, own_nil _ _ _ _, Step.refl _ _, fun b hb' => by simp [ob] at hb'⟩
        simp [Builtin.append_, run_underlying h.u, sizeOf, typeInfo, hi, Builtin.lenOf, Builtin.firstCells, loadCells, loadCellsFrom]
      · have hr := run_append_nil (P := P) w t ty e i z h.u hi hz a m c news (by rw [hsz]; exact hl) hnews (by omega) (by omega) (by rw [hbys]; have hb2 := hbytes; simp only [Nat.zero_add] at hb2; omega)
        have hn := new 0 (by omega) _ rfl
        simp only [Nat.zero_add, List.nil_append, Array.empty_append] at hn ⊢
        exact ⟨_, _, hr, hn, stp _, fun b hb' => fin b hb'⟩
    · have hroom : cap < n + m := by
        rcases Nat.lt_or_ge cap (n + m) with hlt | hge
        · exact hlt
        · exact absurd ⟨g, cap, cur, rfl, hgg, hge⟩ hg
      have holds : ∀ j u, cs[j]? = some u → w.cell? ((⟨g, 0, none⟩ : Addr).add j) = some u := hown.cells (g := g) rfl
      have hr := run_append_grow (P := P) w t ty e i z h.u hi hz ⟨g, 0, none⟩ n cap cs (by rw [hsz]; exact hown.1) holds a m c news (by rw [hsz]; exact hl) hnews hroom (by omega) (growslice_fits hroom (by rw [hbys]; exact hbytes))
      exact ⟨_, _, hr, new cap hroom _ rfl, stp _, fun b hb' => fin b hb'⟩
theorem o_app {t e sz bys : Nat} {z : Value} [h : Sl P t e sz bys z] {s y : Operand} {base : Nat} {v : Value} {n : Nat} {cs : List Value} (hown : w.ownsRow base e sz v n cs) (hs : ev f s = v)
    {a : Addr} {m c : Nat} {news : List Value} (hy : ev f y = .slice (some a) m c) (hl : news.length = m * sz) {L : List Nat} (hsrc : At L w.heap a news) (h1 : ∀ u ∈ news, u.oneCell' = true)
    (hb : n + m ≤ 1099511627776) (hbase : base ≤ w.heap.size)
    (hK : ∀ v' w', w'.ownsRow base e sz v' (n + m) (cs ++ news) → Step (ob v) w w' → (∀ b ∈ ob v', b ∈ ob v ∨ w.heap.size ≤ b) → K (putF f d v') w') (hby : bys ≤ 128 := by decide) :
    XO P ⟨d, .call ⟨.builtin .append, #[s, y], #[t, t]⟩, ty, ps, af, gd⟩ f w K := by
  obtain ⟨v', w', hr, h2, h3, h4⟩ := run_append_my (P := P) (t := t) (ty := ty) hown hl hsrc.cells h1 hb hby hbase (c := c)
  have hr' : (execOp (ev f) ⟨d, .call ⟨.builtin .append, #[s, y], #[t, t]⟩, ty, ps, af, gd⟩).run P w = .ok (.value v') w' := by
    simp [execOp, resolve, invoke, builtin, hs, hy, hr]
  exact xv hr' (hK v' w' h2 h3 h4)
end

/-! ### Struct and array literals of one-cell parts -/
def bsOf (P : Program) (t : Nat) : Option (List Value × List Nat) := match P.info? t, P.underlying t with
  | some it, some (.struct fs) => match it.zero, fs.toList.mapM (fun f => (P.info? f.type).bind fun i => if i.size = 1 then some f.offset else none) with
    | some (.agg zs), some offs => some (zs.toList, offs)
    | _, _ => none
  | some it, some (.array n e) => match it.zero, P.info? e with
    | some (.agg zs), some ie => if ie.size = 1 then some (zs.toList, List.range n) else none
    | _, _ => none
  | _, _ => none
class Bs (P : Program) (t : Nat) (zs : outParam (List Value)) (offs : outParam (List Nat)) : Prop where
  h : bsOf P t = some (zs, offs)
  b : offs.all (· < zs.length) = true
def bld (offs : List Nat) (zs : List Value) : List (Nat × Value) → List Value
  | [] => zs
  | (j, v) :: ps => bld offs (zs.set (offs.getD j 0) v) ps
def OneL : List Value → Prop
  | [] => True
  | v :: vs => v.cells = [v].toArray ∧ OneL vs
theorem fill_one {place : Nat → Option (Nat × Nat)} {offs : List Nat} (hp : ∀ j, j < offs.length → place j = some (offs.getD j 0, 1)) : ∀ (ps : List (Nat × Value)) (zs : List Value), OneL (ps.map (·.2)) → ps.all (fun p => p.1 < offs.length) = true →
    (∀ o ∈ offs, o < zs.length) → Instr.fill place zs.toArray ps = some (bld offs zs ps).toArray
  | [], zs, _, _, _ => rfl
  | (j, v) :: ps, zs, h1, h2, h3 => by
    simp only [List.all_cons, Bool.and_eq_true, decide_eq_true_eq] at h2
    have hj := hp j h2.1
    have hoff : offs.getD j 0 < zs.length := h3 _ (by simp [List.getD, List.getElem?_eq_getElem h2.1])
    unfold Instr.fill
    simp only [hj]
    have hc : v.cells = #[v] := h1.1
    simp only [hc]
    rw [if_neg (by rw [show (#[v] : Array Value).size = 1 from rfl, List.size_toArray]; simp only [ne_eq, not_true, decide_false, Bool.false_or, decide_eq_true_eq]; omega)]
    have : (#[v] : Array Value).zipIdx.foldl (fun cs (x : Value × Nat) => cs.setIfInBounds (offs.getD j 0 + x.2) x.1) zs.toArray = (zs.set (offs.getD j 0) v).toArray := by
      simp [Array.zipIdx]
    rw [this]
    exact fill_one hp ps _ h1.2 h2.2 (fun o ho => by rw [List.length_set]; exact h3 o ho)
theorem bsOf_built {P : Program} {t : Nat} {zs : List Value} {offs : List Nat} (h : bsOf P t = some (zs, offs)) (hb : offs.all (· < zs.length) = true) (ps : List (Nat × Value)) (h1 : OneL (ps.map (·.2))) (h2 : ps.all (fun p => p.1 < offs.length) = true) :
    P.built t ps = some (bld offs zs ps).toArray := by
  have h3 : ∀ o ∈ offs, o < zs.length := fun o ho => by simpa using List.all_eq_true.1 hb o ho
  unfold bsOf at h
  unfold Program.built
  cases hi : P.info? t with
  | none => simp [hi] at h
  | some it =>
    cases hu : P.underlying t with
    | none => simp [hi, hu] at h
    | some dd =>
      simp only [hi, hu] at h
      cases dd <;> simp only [] at h <;> try (cases h)
      case struct fs =>
        cases hz : it.zero with
        | none => simp [hz] at h
        | some z =>
          cases z <;> simp only [hz] at h <;> try (cases h)
          rename_i za
          cases hm : fs.toList.mapM (fun f => (P.info? f.type).bind fun i => if i.size = 1 then some f.offset else none) with
          | none => simp [hm] at h
          | some offs' =>
            simp only [hm, Option.some.injEq, Prod.mk.injEq] at h
            obtain ⟨rfl, rfl⟩ := h
            have key : ∀ (l : List Field) (offs : List Nat), l.mapM (fun f => (P.info? f.type).bind fun i => if i.size = 1 then some f.offset else none) = some offs →
                l.mapM (fun f => (P.info? f.type).map fun i => (f.offset, i.size)) = some (offs.map fun o => (o, 1)) := by
              intro l
              induction l with
              | nil => intro offs h; simp at h; subst h; rfl
              | cons f l ih =>
                intro offs h
                simp only [List.mapM_cons] at h ⊢
                cases hf : P.info? f.type with
                | none => simp [hf] at h
                | some i =>
                  by_cases hs : i.size = 1
                  · simp only [hf, Option.bind_some, hs, if_true, Option.bind_eq_bind] at h
                    cases hl : l.mapM (fun f => (P.info? f.type).bind fun i => if i.size = 1 then some f.offset else none) with
                    | none => simp [hl] at h
                    | some os =>
                      simp [hl] at h
                      subst h
                      simp [ih os hl, hs]
                  · simp [hf, hs] at h
            have hm' := key _ _ hm
            simp only [hz, hm', Value.cells]
            rw [← fill_one (place := fun j => ((offs'.map fun o => (o, 1)).toArray)[j]?) (fun j hj => by simp [List.getElem?_eq_getElem hj, List.getD]) ps za.toList h1 h2 h3]
      case array n e =>
        cases hz : it.zero with
        | none => simp [hz] at h
        | some z =>
          cases z <;> simp only [hz] at h <;> try (cases h)
          rename_i za
          cases hie : P.info? e with
          | none => simp [hie] at h
          | some ie =>
            simp only [hie] at h
            split at h
            · rename_i hs
              simp only [Option.some.injEq, Prod.mk.injEq] at h
              obtain ⟨rfl, rfl⟩ := h
              simp only [hz, hie, Value.cells]
              rw [← fill_one (place := fun i => some (i * ie.size, ie.size)) (fun j hj => by simp at hj; simp [hs, List.getD, hj]) ps za.toList h1 h2 h3]
            · cases h
theorem r_build {P : Program} {f : Fr} {w : World} {d : Option Nat} {ty : Nat} {ps : String} {af : Array Edge} {gd : Option (Nat × Bool)} {t : Nat} {zs : List Value} {offs : List Nat} [h : Bs P t zs offs] {parts : List (Nat × Operand)}
    (h1 : OneL (parts.map fun x => ev f x.2)) (h2 : parts.all (fun p => p.1 < offs.length) = true := by rfl) :
    (execOp (ev f) ⟨d, .build t parts.toArray, ty, ps, af, gd⟩).run P w = .ok (.value (.agg (bld offs zs (parts.map fun x => (x.1, ev f x.2))).toArray)) w := by
  have hb := bsOf_built h.h h.b (parts.map fun x => (x.1, ev f x.2)) (by rw [List.map_map]; exact h1) (by rw [List.all_map]; exact h2)
  have hr := run_build (P := P) w t (parts.toArray.map fun (i, x) => (i, ev f x)) _ (by simpa using hb)
  simp only [execOp, Sem.run_bind, hr, Result.andThen_ok, Sem.run_pure]
end Go.Lg
/- Maps: keys by an injective encoding, contents as a list of pairs. -/
namespace Go.Lg
open Go.RowKit

section
variable {κ : Type} [DecidableEq κ]
def mget : List (κ × Value) → κ → Option Value
  | [], _ => none
  | (k', v) :: m, k => if k' = k then some v else mget m k
def mput : List (κ × Value) → κ → Value → List (κ × Value)
  | [], k, v => [(k, v)]
  | (k', v') :: m, k, v => if k' = k then (k', v) :: m else (k', v') :: mput m k v
theorem mget_mput (m : List (κ × Value)) (k k' : κ) (v : Value) : mget (mput m k v) k' = if k = k' then some v else mget m k' := by
  induction m with
  | nil => simp [mget, mput]
  | cons p m ih =>
    obtain ⟨q, u⟩ := p
    simp only [mput]
    by_cases h : q = k
    · subst h; simp [mget]; by_cases h2 : q = k' <;> simp [h2]
    · simp only [h, if_false, mget, ih]
      by_cases h2 : q = k'
      · subst h2; simp [Ne.symm h]
      · simp [h2]
theorem mput_length_le (m : List (κ × Value)) (k : κ) (v : Value) : m.length ≤ (mput m k v).length ∧ (mput m k v).length ≤ m.length + 1 := by
  induction m with
  | nil => simp [mput]
  | cons p m ih =>
    obtain ⟨q, u⟩ := p
    simp only [mput]
    split <;> simp <;> omega
theorem mput_length_old {m : List (κ × Value)} {k : κ} {u : Value} (h : mget m k = some u) (v : Value) : (mput m k v).length = m.length := by
  induction m with
  | nil => simp [mget] at h
  | cons p m ih =>
    obtain ⟨q, x⟩ := p
    simp only [mput]
    by_cases hq : q = k
    · simp [hq]
    · simp only [mget, hq, if_false] at h; simp [hq, ih h]
theorem mput_length_new {m : List (κ × Value)} {k : κ} (h : mget m k = none) (v : Value) : (mput m k v).length = m.length + 1 := by
  induction m with
  | nil => simp [mput]
  | cons p m ih =>
    obtain ⟨q, x⟩ := p
    simp only [mput]
    by_cases hq : q = k
    · simp [mget, hq] at h
    · simp only [mget, hq, if_false] at h; simp [hq, ih h]
def fnd (k : κ) : List κ → List MapEntry → Nat → Option (Nat × Value)
  | q :: ks, e :: es, i => if k = q then some (i, e.val) else fnd k ks es (i + 1)
  | _, _, _ => none
end

/-- Keys of type kt are the values enc k. -/
class Key (P : Program) (kt : Nat) {κ : Type} [DecidableEq κ] (enc : κ → Value) : Prop where
  check : ∀ (w : World) (em : Bool) (k : κ), (Instr.checkKey em 10000 kt (enc k)).run P w = .ok () w
  find : ∀ (w : World) (k : κ) (ks : List κ) (es : List MapEntry), es.map (·.key) = ks.map enc → (Instr.findKey kt (enc k) es).run P w = .ok (fnd k ks es 0) w
  same : ∀ k, Instr.sameBits 10000 (enc k) (enc k) = true

abbrev kInt (n : Int) : Value := .int .i64 n
abbrev kPair (p : Int × Int) : Value := .agg #[.int .i64 p.1, .int .i64 p.2]
abbrev kStr (s : ByteArray) : Value := .string s

theorem key_int {P : Program} {kt : Nat} (hu : P.underlying kt = some (.int .i64)) : Key P kt kInt := by
  refine ⟨fun w em k => ?_, fun w k ks es h => ?_, fun k => by simp [Instr.sameBits]⟩
  · have hck : ∀ n, (Instr.checkKey em (n + 1) kt (kInt k)).run P w = .ok () w := fun n => by simp [Instr.checkKey, run_underlying hu]
    exact hck 9999
  · have key : ∀ (ks : List Int) (es : List MapEntry) (i : Nat), es.map (·.key) = ks.map kInt → Instr.findNow (.int .i64) (kInt k) es i = some (fnd k ks es i) := by
      intro ks
      induction ks with
      | nil => intro es i h; simp at h; subst h; rfl
      | cons q ks ih =>
        intro es i h
        cases es with
        | nil => simp at h
        | cons e es =>
          simp only [List.map_cons, List.cons.injEq] at h
          have ih' := ih es (i + 1) h.2
          simp only [Instr.findNow, h.1, Instr.sameNow, kInt, if_true, fnd]
          by_cases hq : k = q
          · subst hq; simp
          · have : (k == q) = false := by simpa using hq
            simp [hq, this, ih']
    simp [Instr.findKey, run_underlying hu, key ks es 0 h]
theorem key_str {P : Program} {kt : Nat} (hu : P.underlying kt = some .string) : Key P kt kStr := by
  refine ⟨fun w em k => ?_, fun w k ks es h => ?_, fun k => by simp [Instr.sameBits, (MapKept.bytes_beq k k).2 rfl]⟩
  · have hck : ∀ n, (Instr.checkKey em (n + 1) kt (kStr k)).run P w = .ok () w := fun n => by simp [Instr.checkKey, run_underlying hu]
    exact hck 9999
  · have key : ∀ (ks : List ByteArray) (es : List MapEntry) (i : Nat), es.map (·.key) = ks.map kStr → Instr.findNow .string (kStr k) es i = some (fnd k ks es i) := by
      intro ks
      induction ks with
      | nil => intro es i h; simp at h; subst h; rfl
      | cons q ks ih =>
        intro es i h
        cases es with
        | nil => simp at h
        | cons e es =>
          simp only [List.map_cons, List.cons.injEq] at h
          have ih' := ih es (i + 1) h.2
          simp only [Instr.findNow, h.1, Instr.sameNow, kStr, fnd]
          by_cases hq : k = q
          · subst hq; simp [(MapKept.bytes_beq k k).2 rfl]
          · have : (k == q) = false := by
              cases hb : (k == q) with
              | false => rfl
              | true => exact absurd ((MapKept.bytes_beq k q).1 hb) hq
            simp [hq, this, ih']
    simp [Instr.findKey, run_underlying hu, key ks es 0 h]
theorem run_equal_pair {P : Program} {kt e : Nat} (hu : P.underlying kt = some (.array 2 e)) (he : P.underlying e = some (.int .i64)) (hs : (P.info? e).map (·.size) = some 1) (w : World) (p q : Int × Int) :
    (Op.equal kt (kPair p) (kPair q)).run P w = .ok (decide (p = q)) w := by
  obtain ⟨a, b⟩ := p
  obtain ⟨c, d⟩ := q
  cases hi : P.info? e with
  | none => simp [hi] at hs
  | some ie =>
    simp [hi] at hs
    have hag : ∀ w, (isAgg e).run P w = .ok false w := fun w => by simp [isAgg, run_underlying he]
    have hp : ∀ (x y : Int) (w : World), (part e #[.int .i64 x, .int .i64 y] 0).run P w = .ok (.int .i64 x) w := fun x y w => by simp [part, hag]
    have hp1 : ∀ (x y : Int) (w : World), (part e #[.int .i64 x, .int .i64 y] 1).run P w = .ok (.int .i64 y) w := fun x y w => by simp [part, hag]
    have heq : ∀ (m : Nat) (x y : Int) (w : World), (Op.equalIn (m + 1) e (.int .i64 x) (.int .i64 y)).run P w = .ok (x == y) w := fun m x y w => by simp [Op.equalIn, run_underlying he]
    simp only [Op.equal, Op.maxDepth, kPair]
    unfold Op.equalIn
    simp only [Sem.run_bind, run_underlying hu, Result.andThen_ok, sizeOf, typeInfo, run_program, hi, Sem.run_pure, hs]
    simp only [Std.Legacy.Range.forIn_eq_forIn_range', Std.Legacy.Range.size, Nat.sub_zero, Nat.add_sub_cancel, Nat.div_one, List.range'_succ, List.range'_zero, List.forIn_cons, List.forIn_nil, Nat.zero_mul, Nat.one_mul, Nat.zero_add]
    by_cases h1 : a = c
    · subst h1
      by_cases h2 : b = d
      · subst h2; simp [hp, hp1, heq]
      · simp [hp, hp1, heq, h2]
    · simp [hp, heq, h1]
theorem key_pair {P : Program} {kt e : Nat} (hu : P.underlying kt = some (.array 2 e)) (he : P.underlying e = some (.int .i64)) (hs : (P.info? e).map (·.size) = some 1) : Key P kt kPair := by
  refine ⟨fun w em k => ?_, fun w k ks es h => ?_, fun k => ?_⟩
  · obtain ⟨a, b⟩ := k
    cases hi : P.info? e with
    | none => simp [hi] at hs
    | some ie =>
      simp [hi] at hs
      have hag : ∀ w, (isAgg e).run P w = .ok false w := fun w => by simp [isAgg, run_underlying he]
      have hp : ∀ (x y : Int) (w : World), (part e #[.int .i64 x, .int .i64 y] 0).run P w = .ok (.int .i64 x) w := fun x y w => by simp [part, hag]
      have hp1 : ∀ (x y : Int) (w : World), (part e #[.int .i64 x, .int .i64 y] 1).run P w = .ok (.int .i64 y) w := fun x y w => by simp [part, hag]
      have hck : ∀ (m : Nat) (x : Int) (w : World), (Instr.checkKey em (m + 1) e (.int .i64 x)).run P w = .ok () w := fun m x w => by simp [Instr.checkKey, run_underlying he]
      simp only [kPair]
      unfold Instr.checkKey
      simp only [Sem.run_bind, run_underlying hu, Result.andThen_ok, sizeOf, typeInfo]
      simp [Std.Legacy.Range.forIn_eq_forIn_range', Std.Legacy.Range.size, List.range'_succ, hi, hs, hp, hp1, hck]
  · have hno : ∀ es i, es.map (·.key) = ks.map kPair → Instr.findNow (.array 2 e) (kPair k) es i = none ∨ es = [] := by
      intro es i h
      cases es with
      | nil => exact .inr rfl
      | cons e es => left; simp [Instr.findNow, Instr.sameNow]
    have ask : ∀ (ks : List (Int × Int)) (es : List MapEntry) (i : Nat), es.map (·.key) = ks.map kPair → (Instr.findAsking kt (kPair k) es i).run P w = .ok (fnd k ks es i) w := by
      intro ks
      induction ks with
      | nil => intro es i h; simp at h; subst h; simp [Instr.findAsking, fnd]
      | cons q ks ih =>
        intro es i h
        cases es with
        | nil => simp at h
        | cons e es =>
          simp only [List.map_cons, List.cons.injEq] at h
          have ih' := ih es (i + 1) h.2
          simp only [Instr.findAsking, h.1, Sem.run_bind, run_equal_pair hu he hs, Result.andThen_ok, fnd]
          by_cases hq : k = q
          · subst hq; simp
          · simp [hq, ih']
    rcases hno es 0 h with h1 | h1
    · simp [Instr.findKey, run_underlying hu, h1, ask ks es 0 h]
    · subst h1
      have : ks = [] := by simpa using h.symm
      subst this
      simp [Instr.findKey, run_underlying hu, Instr.findNow, fnd]
  · simp [Instr.sameBits]

/-! ### Maps in memory -/
class Mp (P : Program) (t : Nat) (kt et : outParam Nat) (z : outParam Value) : Prop where
  u : P.underlying t = some (.map kt et)
  z : (P.info? et).map (·.zero) = some (some z)
def MapB {κ : Type} (enc : κ → Value) (H : Array Obj) (b : Nat) (m : List (κ × Value)) : Prop :=
  ∃ es clock, H[b]? = some (.map es clock) ∧ es.toList.map (fun e => (e.key, e.val)) = m.map (fun p => (enc p.1, p.2))
section
variable {κ : Type} {enc : κ → Value}
theorem MapB.lt {H : Array Obj} {b : Nat} {m : List (κ × Value)} (h : MapB enc H b m) : b < H.size := by
  obtain ⟨es, c, h1, _⟩ := h; exact (Array.getElem?_eq_some_iff.1 h1).1
theorem MapB.step {X : List Nat} {w w' : World} {b : Nat} {m : List (κ × Value)} (h : MapB enc w.heap b m) (hs : Step X w w') (hb : b ∉ X) : MapB enc w'.heap b m := by
  have hl := h.lt
  obtain ⟨es, c, h1, h2⟩ := h
  exact ⟨es, c, by rw [hs.block b hl hb]; exact h1, h2⟩
theorem MapB.ext {w w' : World} {b : Nat} {m : List (κ × Value)} (h : MapB enc w.heap b m) (hs : Step [] w w') : MapB enc w'.heap b m := h.step hs (by simp)
theorem keys_of {m : List (κ × Value)} {es : List MapEntry} (h : es.map (fun e => (e.key, e.val)) = m.map (fun p => (enc p.1, p.2))) : es.map (·.key) = (m.map (·.1)).map enc := by
  have := congrArg (List.map Prod.fst) h
  simp only [List.map_map] at this ⊢
  exact this
variable [DecidableEq κ]
theorem fnd_none {k : κ} : ∀ {m : List (κ × Value)} {es : List MapEntry} {i : Nat}, es.map (fun e => (e.key, e.val)) = m.map (fun p => (enc p.1, p.2)) → mget m k = none → fnd k (m.map (·.1)) es i = none
  | [], es, i, h, _ => by simp [fnd]
  | (q, u) :: m, [], i, h, _ => by simp at h
  | (q, u) :: m, e :: es, i, h, hm => by
    simp only [List.map_cons, List.cons.injEq] at h
    simp only [mget] at hm
    by_cases hq : q = k
    · simp [hq] at hm
    · simp only [hq, if_false] at hm
      simp only [List.map_cons, fnd, Ne.symm hq, if_false]
      exact fnd_none h.2 hm
theorem fnd_some {k : κ} {u : Value} : ∀ {m : List (κ × Value)} {es : List MapEntry} {i : Nat}, es.map (fun e => (e.key, e.val)) = m.map (fun p => (enc p.1, p.2)) → mget m k = some u →
    ∃ j, fnd k (m.map (·.1)) es i = some (i + j, u) ∧ j < es.length ∧ (∃ e, es[j]? = some e ∧ e.key = enc k) ∧
      ∀ v, (es.modify j fun e => { e with key := enc k, val := v }).map (fun e => (e.key, e.val)) = (mput m k v).map (fun p => (enc p.1, p.2))
  | [], es, i, _, h => by simp [mget] at h
  | (q, x) :: m, [], i, h, _ => by simp at h
  | (q, x) :: m, e :: es, i, h, hm => by
    simp only [List.map_cons, List.cons.injEq, Prod.mk.injEq] at h
    simp only [mget] at hm
    by_cases hq : q = k
    · subst hq
      simp at hm; subst hm
      refine ⟨0, by simp [fnd, h.1.2], by simp, ⟨e, rfl, h.1.1⟩, fun v => ?_⟩
      simp [mput, h.2]
    · simp only [hq, if_false] at hm
      obtain ⟨j, h1, h2, ⟨e', h3, h3'⟩, h4⟩ := fnd_some (i := i + 1) h.2 hm
      refine ⟨j + 1, ?_, by simp; omega, ⟨e', by simpa using h3, h3'⟩, fun v => ?_⟩
      · simp only [List.map_cons, fnd, Ne.symm hq, if_false, h1]
        congr 2; omega
      · simp only [mput, hq, if_false, List.modify_succ_cons, List.map_cons, h4 v, h.1]
end

section
variable {P : Program} {K : Fr → World → Prop} {f : Fr} {w : World} {d : Option Nat} {ty : Nat} {ps : String} {af : Array Edge} {gd : Option (Nat × Bool)} {κ : Type} [DecidableEq κ]
omit [DecidableEq κ] in
theorem o_makeMap {t : Nat} (enc : κ → Value)
    (hK : ∀ b w', Step [] w w' → w.heap.size ≤ b → MapB enc w'.heap b [] → K (putF f d (.map (some b))) w') : XO P ⟨d, .makeMap t none, ty, ps, af, gd⟩ f w K := by
  have hr : (execOp (ev f) ⟨d, .makeMap t none, ty, ps, af, gd⟩).run P w = .ok (.value (.map (some w.heap.size))) (w.alloc (.map #[] 0)) := by
    simp [execOp, Instr.makeMap]
  exact xv hr (hK _ _ (Step.alloc w _) (Nat.le_refl _) ⟨#[], 0, al_new w _, rfl⟩)
theorem run_getObj_my {b : Nat} {es : Array MapEntry} {c : Nat} (h : w.heap[b]? = some (.map es c)) : (getObj b).run P w = .ok (.map es c) w := by
  simp [getObj, Sem.run, h]
theorem run_setObj_my {b : Nat} {es es' : Array MapEntry} {c c' : Nat} (h : w.heap[b]? = some (.map es c)) : (setObj b (.map es' c')).run P w = .ok () { w with heap := w.heap.setIfInBounds b (.map es' c') } := by
  simp [setObj, Sem.run, h]
theorem r_lookup {t kt et : Nat} {z : Value} [hm : Mp P t kt et z] {enc : κ → Value} [hk : Key P kt enc] {x y : Operand} {b : Nat} {m : List (κ × Value)} {k : κ} (h : MapB enc w.heap b m) (hx : ev f x = .map (some b)) (hy : ev f y = enc k) :
    (execOp (ev f) ⟨d, .lookup t x y true, ty, ps, af, gd⟩).run P w = .ok (.value (match mget m k with | some u => .tuple #[u, .bool true] | none => .tuple #[z, .bool false])) w := by
  obtain ⟨es, c, h1, h2⟩ := h
  have hf := hk.find w k (m.map (·.1)) es.toList (keys_of h2)
  have hz : (zeroValue et).run P w = .ok z w := by
    have := hm.z
    cases hi : P.info? et with
    | none => simp [hi] at this
    | some i => simp [hi] at this; simp [zeroValue, typeInfo, hi, this]
  simp only [execOp, Sem.run_bind, Instr.lookup, run_underlying hm.u, Result.andThen_ok, hx, hy, run_getObj_my h1, Sem.run_pure, hk.check, hf]
  cases hg : mget m k with
  | none => rw [fnd_none h2 hg]; simp [hz]
  | some u =>
    obtain ⟨j, hj, _⟩ := fnd_some (i := 0) h2 hg
    rw [hj]; simp
theorem r_lookup1 {t kt et : Nat} {z : Value} [hm : Mp P t kt et z] {enc : κ → Value} [hk : Key P kt enc] {x y : Operand} {b : Nat} {m : List (κ × Value)} {k : κ} (h : MapB enc w.heap b m) (hx : ev f x = .map (some b)) (hy : ev f y = enc k) :
    (execOp (ev f) ⟨d, .lookup t x y false, ty, ps, af, gd⟩).run P w = .ok (.value (match mget m k with | some u => u | none => z)) w := by
  obtain ⟨es, c, h1, h2⟩ := h
  have hf := hk.find w k (m.map (·.1)) es.toList (keys_of h2)
  have hz : (zeroValue et).run P w = .ok z w := by
    have := hm.z
    cases hi : P.info? et with
    | none => simp [hi] at this
    | some i => simp [hi] at this; simp [zeroValue, typeInfo, hi, this]
  simp only [execOp, Sem.run_bind, Instr.lookup, run_underlying hm.u, Result.andThen_ok, hx, hy, run_getObj_my h1, Sem.run_pure, hk.check, hf]
  cases hg : mget m k with
  | none => rw [fnd_none h2 hg]; simp [hz]
  | some u =>
    obtain ⟨j, hj, _⟩ := fnd_some (i := 0) h2 hg
    rw [hj]; simp
omit [DecidableEq κ] in
theorem r_lenM {t kt et : Nat} {z : Value} [hm : Mp P t kt et z] {enc : κ → Value} {x : Operand} {b : Nat} {m : List (κ × Value)} (h : MapB enc w.heap b m) (hx : ev f x = .map (some b)) :
    (execOp (ev f) ⟨d, .call ⟨.builtin .len, #[x], #[t]⟩, ty, ps, af, gd⟩).run P w = .ok (.value (.int .i64 m.length)) w := by
  obtain ⟨es, c, h1, h2⟩ := h
  have hl : es.size = m.length := by have := congrArg List.length h2; simpa using this
  simp [execOp, resolve, invoke, builtin, Builtin.len_, hx, run_underlying hm.u, goInt, run_getObj_my h1, hl]
theorem run_update {t kt et : Nat} {z : Value} [hm : Mp P t kt et z] {enc : κ → Value} [hk : Key P kt enc] {b : Nat} {m : List (κ × Value)} {k : κ} {u : Value} (h : MapB enc w.heap b m) :
    ∃ w', (Instr.mapUpdate t (.map (some b)) (enc k) u).run P w = .ok () w' ∧ Step [b] w w' ∧ MapB enc w'.heap b (mput m k u) := by
  have hl := h.lt
  obtain ⟨es, c, h1, h2⟩ := h
  have hf := hk.find w k (m.map (·.1)) es.toList (keys_of h2)
  have stp : ∀ es' c', Step [b] w { w with heap := w.heap.setIfInBounds b (.map es' c') } := fun es' c' =>
    ⟨rfl, rfl, rfl, by simp, fun i hi hn => by
      have : b ≠ i := fun e => hn (by simp [e])
      simp [Array.getElem?_setIfInBounds_ne this]⟩
  cases hg : mget m k with
  | none =>
    rw [fnd_none h2 hg] at hf
    refine ⟨_, ?_, stp (es.push { key := enc k, val := u, born := c }) (c + 1), es.push { key := enc k, val := u, born := c }, c + 1, ?_, ?_⟩
    · simp only [Instr.mapUpdate, Sem.run_bind, run_underlying hm.u, Result.andThen_ok, run_getObj_my h1, hk.check, hf, run_setObj_my h1]
    · simp [hl]
    · have hput : mput m k u = m ++ [(k, u)] := by
        clear h2 hf
        induction m with
        | nil => rfl
        | cons p m ih =>
          obtain ⟨q, x⟩ := p
          by_cases hq : q = k
          · simp [mget, hq] at hg
          · simp only [mget, hq, if_false] at hg; simp [mput, hq, ih hg]
      simp [hput, h2]
  | some u0 =>
    obtain ⟨j, hj, hlt, ⟨e, he, hek⟩, hmod⟩ := fnd_some (i := 0) h2 hg
    rw [hj] at hf
    simp only [Nat.zero_add] at hf
    have hst : ∀ w, (Instr.keyThatStays (enc k) (enc k)).run P w = .ok (enc k) w := fun w => by simp [Instr.keyThatStays, hk.same]
    have hkey : ((es[j]?).map (·.key)).getD (enc k) = enc k := by
      have : es[j]? = some e := by simpa using he
      simp [this, hek]
    refine ⟨_, ?_, stp (es.modify j fun e => { e with key := enc k, val := u }) c, es.modify j fun e => { e with key := enc k, val := u }, c, ?_, ?_⟩
    · simp only [Instr.mapUpdate, Sem.run_bind, run_underlying hm.u, Result.andThen_ok, run_getObj_my h1, hk.check, hf, hkey, hst, run_setObj_my h1]
    · simp [hl]
    · rw [Array.toList_modify]; exact hmod u
theorem o_update {t kt et : Nat} {z : Value} [hm : Mp P t kt et z] {enc : κ → Value} [hk : Key P kt enc] {x y v : Operand} {b : Nat} {m : List (κ × Value)} {k : κ} (h : MapB enc w.heap b m) (hx : ev f x = .map (some b)) (hy : ev f y = enc k)
    (hK : ∀ w', Step [b] w w' → MapB enc w'.heap b (mput m k (ev f v)) → K (putF f d undef) w') : XO P ⟨d, .mapUpdate t x y v, ty, ps, af, gd⟩ f w K := by
  obtain ⟨w', h1, h2, h3⟩ := run_update (P := P) (t := t) (k := k) (u := ev f v) h
  exact xk (w' := w') (by simp [execOp, hx, hy, h1]) (hK w' h2 h3)
theorem o_insert {t kt et : Nat} {z : Value} [hm : Mp P t kt et z] {enc : κ → Value} [hk : Key P kt enc] {x y v : Operand} {b : Nat} {m : List (κ × Value)} {k : κ} (h : MapB enc w.heap b m) (hx : ev f x = .map (some b)) (hy : ev f y = enc k)
    (hK : ∀ w', Step [b] w w' → MapB enc w'.heap b (mput m k (ev f v)) → K (putF f d undef) w') : XO P ⟨d, .insert t x y v, ty, ps, af, gd⟩ f w K := by
  obtain ⟨w', h1, h2, h3⟩ := run_update (P := P) (t := t) (k := k) (u := ev f v) h
  exact xk (w' := w') (by simp [execOp, hx, hy, h1]) (hK w' h2 h3)
end
end Go.Lg
/- More operations: stores, slicing, make, conversions; the quiet forms for drawn regions; automata as data. -/
namespace Go.Lg
open Go.RowKit

section
variable {P : Program} {ops : List Oper} {K : Fr → World → Prop} {f : Fr} {w : World} {d : Option Nat} {ty : Nat} {ps : String} {af : Array Edge} {gd : Option (Nat × Bool)} {l : List Oper}
theorem setRow_blk {b T : Nat} {cs cs' : List Value} (h : Blk w.heap b T cs) : Blk (w.setRow b cs'.toArray).heap b T cs' := setRow_heap w b cs.toArray cs'.toArray T (0, 0) h
theorem take_set_drop (cs : List Value) (j : Nat) (u : Value) (h : j < cs.length) : cs.take j ++ [u] ++ cs.drop (j + 1) = cs.set j u := by
  rw [List.set_eq_take_append_cons_drop, if_pos h]; simp
/-- A store of one cell into a block of the call's own. -/
theorem o_store {t : Nat} [h1 : One P t] {x y : Operand} {b T j : Nat} {cs : List Value} {u : Value} (hB : Blk w.heap b T cs) (hx : ev f x = .pointer (some ⟨b, j, none⟩)) (hy : ev f y = u) (hj : j < cs.length) (hu : u.oneCell' = true)
    (hK : ∀ w', Step [b] w w' → Blk w'.heap b T (cs.set j u) → K (putF f d undef) w') : XO P ⟨d, .store t x y, ty, ps, af, gd⟩ f w K := by
  have hc : u.cells = #[u] := by cases u <;> first | rfl | cases hu
  have hr := run_storeCells_at P b j T [u] 0 cs.toArray w hB (by simp; omega) (by simp [hu])
  simp only [Nat.add_zero, List.length_singleton, take_set_drop cs j u hj] at hr
  refine xk (w' := w.setRow b (cs.set j u).toArray) ?_ (hK _ (Step.setRow _ _ _) (setRow_blk hB))
  simp [execOp, hx, hy, Instr.storeAt, Instr.sureAddr, storeVar, sizeOf_one, hc, hr]
def OnesL : List Value → Prop
  | [] => True
  | u :: us => u.oneCell' = true ∧ OnesL us
theorem OnesL.all : ∀ {us : List Value}, OnesL us → ∀ u ∈ us, u.oneCell' = true
  | [], _, u, hu => by cases hu
  | v :: us, h, u, hu => by
    rcases List.mem_cons.1 hu with rfl | hu
    · exact h.1
    · exact OnesL.all h.2 u hu
/-- A store of a whole struct or array. -/
theorem o_stores {t sz : Nat} [h1 : Ag P t sz] {x y : Operand} {b T : Nat} {cs us : List Value} (hB : Blk w.heap b T cs) (hx : ev f x = .pointer (some ⟨b, 0, none⟩)) (hy : ev f y = .agg us.toArray) (hl : us.length = sz) (hj : cs.length = sz) (hu : OnesL us)
    (hK : ∀ w', Step [b] w w' → Blk w'.heap b T us → K (putF f d undef) w') : XO P ⟨d, .store t x y, ty, ps, af, gd⟩ f w K := by
  have hr := run_storeCells_at P b 0 T us 0 cs.toArray w hB (by simp; omega) hu.all
  have e : (cs.take 0 ++ us ++ cs.drop us.length) = us := by rw [hl, ← hj]; simp
  simp only [Nat.add_zero, Nat.zero_add, e] at hr
  refine xk (w' := w.setRow b us.toArray) ?_ (hK _ (Step.setRow _ _ _) (setRow_blk hB))
  subst hl
  simp [execOp, hx, hy, Instr.storeAt, Instr.sureAddr, storeVar, sizeOf_ag (sz := us.length), Value.cells, hr]
theorem r_indexB {x y : Operand} {t e sz bys : Nat} {z : Value} [h : Sl P t e sz bys z] {b o n c : Nat} {k : IntKind} {i : Nat} (hx : ev f x = .slice (some ⟨b, o, none⟩) n c) (hy : ev f y = .int k i) (h1 : i < n) :
    (execOp (ev f) ⟨d, .indexAddr t x y, ty, ps, af, gd⟩).run P w = .ok (.value (.pointer (some ⟨b, o + i * sz, none⟩))) w := by
  have := r_index (P := P) (w := w) (d := d) (ty := ty) (ps := ps) (af := af) (gd := gd) (t := t) hx hy (by omega) (by omega)
  rw [lit_add'] at this
  simpa using this
/-- make([]T, n) -/
theorem o_make {t e sz bys : Nat} {z : Value} [h : Sl P t e sz bys z] {x y : Operand} {k k' : IntKind} {n : Nat} (hx : ev f x = .int k n) (hy : ev f y = .int k' n) (hn : n ≤ 1099511627776)
    (hK : ∀ b w', Step [] w w' → w.heap.size ≤ b → Blk w'.heap b e (List.replicate n z.cells.toList).flatten → K (putF f d (.slice (some ⟨b, 0, none⟩) n n)) w') (hby : bys ≤ 128 := by decide) :
    XO P ⟨d, .makeSlice t x y, ty, ps, af, gd⟩ f w K := by
  obtain ⟨i, hi, hz, hsz, hbys⟩ := Sl.info h
  have hb : i.bytes * n ≤ 281474976710656 := by
    rw [hbys]; exact Nat.le_trans (Nat.mul_le_mul hby hn) (by omega)
  have hb' : (i.bytes : Int) * (n : Int) ≤ 281474976710656 := by
    have h : ((i.bytes * n : Nat) : Int) ≤ 281474976710656 := by omega
    rwa [Int.natCast_mul] at h
  have hr := run_make (P := P) w t e i z h.u hi hz k k' n n (by omega) (Int.le_refl _) hb' (by omega)
  simp only [Int.toNat_natCast] at hr
  have hcells : madeCells z.cells (n * i.size) = (List.replicate n z.cells.toList).flatten.toArray := by
    have hzs : z.cells.size = i.size := by rw [h.zs, hsz]
    have hpos : 0 < z.cells.size := by rw [h.zs]; exact h.pos
    apply Array.ext'
    apply List.ext_getElem?
    intro j
    simp only [madeCells, ← hzs, Array.toList_map, Array.toList_range, List.getElem?_map]
    have hlen : ∀ n, (List.replicate n z.cells.toList).flatten.length = n * z.cells.size := fun n => by simp
    have key : ∀ n j, j < n * z.cells.size → (List.replicate n z.cells.toList).flatten[j]? = some z.cells[j % z.cells.size]! := by
      intro n
      induction n with
      | zero => intro j hj; omega
      | succ n ih =>
        intro j hj
        rw [List.replicate_succ, List.flatten_cons]
        by_cases hlt : j < z.cells.size
        · rw [List.getElem?_append_left (by simpa using hlt), Nat.mod_eq_of_lt hlt]
          simp [hlt]
        · rw [List.getElem?_append_right (by simp; omega)]
          have := ih (j - z.cells.size) (by rw [Nat.add_mul] at hj; omega)
          rw [Array.length_toList, this]
          rw [← Nat.mod_eq_sub_mod (by omega)]
    by_cases hj : j < n * z.cells.size
    · rw [key n j hj]; simp [hj]
    · rw [List.getElem?_eq_none (by simpa using Nat.le_of_not_lt hj), List.getElem?_eq_none (by rw [hlen]; omega)]; rfl
  rw [hcells] at hr
  refine xv (w' := w.alloc (.cells (List.replicate n z.cells.toList).flatten.toArray e)) (v := .slice (some ⟨w.heap.size, 0, none⟩) n n) ?_ (hK _ _ (Step.alloc w _) (Nat.le_refl _) (al_new w _))
  simp [execOp, hx, hy, hr]

/-! slicing -/
theorem run_sliceBound {k : IntKind} {i y : Nat} {c : BoundsCode} (h : i ≤ y) : (Instr.sliceBound (.int k i) y c).run P w = .ok i w := by
  simp [Instr.sliceBound, asIntOf, h]
theorem Arr.cut {L : List Nat} {H : Array Obj} {a : Addr} {n cap sz : Nat} {cs : List Value} (h : Arr L H (.slice (some a) n cap) n sz cs) {lo hi : Nat} (h1 : lo ≤ hi) (h2 : hi ≤ n) :
    Arr L H (.slice (if cap = lo then some a else some (a.add (lo * sz))) (hi - lo) (cap - lo)) (hi - lo) sz ((cs.drop (lo * sz)).take ((hi - lo) * sz)) := by
  obtain ⟨h3, h4, h5⟩ := h
  rcases h5 with ⟨h6, _⟩ | ⟨a', cap', h6, h7, h8⟩
  · cases h6
  · cases h6
    refine ⟨?_, by omega, .inr ?_⟩
    · simp only [List.length_take, List.length_drop, h3, ← Nat.sub_mul]
      rw [Nat.min_eq_left]; exact Nat.mul_le_mul_right _ (by omega)
    · split
      · rename_i hc
        have : hi - lo = 0 := by omega
        refine ⟨a, cap - lo, by rw [this], by omega, h8.out, h8.lt, fun j u hu => ?_⟩
        simp [this] at hu
      · refine ⟨a.add (lo * sz), cap - lo, rfl, by omega, by rw [add_block]; exact h8.out, by rw [add_block]; exact h8.lt, fun j u hu => ?_⟩
        rw [Addr.add_add]
        rw [List.getElem?_take] at hu
        split at hu
        · exact h8.cell _ u (by simpa using hu)
        · cases hu
/-- s[lo:hi], both given -/
theorem r_slice {t e sz bys : Nat} {z : Value} [h : Sl P t e sz bys z] {x y1 y2 : Operand} {L : List Nat} {v : Value} {n : Nat} {cs : List Value} {H : Array Obj} {k k' : IntKind} {lo hi : Nat} (hA : Arr L H v n sz cs) (hx : ev f x = v) (hl : ev f y1 = .int k lo) (hh : ev f y2 = .int k' hi)
    (h1 : lo ≤ hi) (h2 : hi ≤ n) : ∃ v', Arr L H v' (hi - lo) sz ((cs.drop (lo * sz)).take ((hi - lo) * sz)) ∧ ∀ w, (execOp (ev f) ⟨d, .slice t x (some y1) (some y2) none, ty, ps, af, gd⟩).run P w = .ok (.value v') w := by
  obtain ⟨i, hi', _, hsz, _⟩ := Sl.info h
  rcases hA.2.2 with ⟨hv, hn⟩ | ⟨a, cap, hv, hc, hat⟩
  · have e1 : hi = 0 := by omega
    have e2 : lo = 0 := by omega
    subst e1 e2
    refine ⟨.slice none 0 0, ⟨by simp, by omega, .inl ⟨rfl, rfl⟩⟩, fun w => ?_⟩
    simp [execOp, hx, hv, hl, hh, Instr.sliceAt, Instr.slice, run_underlying h.u, Instr.sliceBounds, Instr.sliceBound, asIntOf, sizeOf, typeInfo, hi']
  · subst hv
    refine ⟨_, hA.cut h1 h2, fun w => ?_⟩
    have e1 : (Instr.sliceBound (.int k' hi) cap .sliceAcap).run P w = .ok hi w := run_sliceBound (by omega)
    have e2 : (Instr.sliceBound (.int k lo) hi .sliceB).run P w = .ok lo w := run_sliceBound (by omega)
    simp [execOp, hx, hl, hh, Instr.sliceAt, Instr.slice, run_underlying h.u, Instr.sliceBounds, e1, e2, sizeOf, typeInfo, hi', hsz]
/-- s[lo:] -/
theorem r_sliceL {t e sz bys : Nat} {z : Value} [h : Sl P t e sz bys z] {x y1 : Operand} {L : List Nat} {v : Value} {n : Nat} {cs : List Value} {H : Array Obj} {k : IntKind} {lo : Nat} (hA : Arr L H v n sz cs) (hx : ev f x = v) (hl : ev f y1 = .int k lo)
    (h1 : lo ≤ n) : ∃ v', Arr L H v' (n - lo) sz (cs.drop (lo * sz)) ∧ ∀ w, (execOp (ev f) ⟨d, .slice t x (some y1) none none, ty, ps, af, gd⟩).run P w = .ok (.value v') w := by
  obtain ⟨i, hi', _, hsz, _⟩ := Sl.info h
  rcases hA.2.2 with ⟨hv, hn⟩ | ⟨a, cap, hv, hc, hat⟩
  · have e2 : lo = 0 := by omega
    subst e2 hn
    have : cs = [] := List.eq_nil_of_length_eq_zero (by simpa using hA.1)
    subst this
    refine ⟨.slice none 0 0, ⟨by simp, by omega, .inl ⟨rfl, rfl⟩⟩, fun w => ?_⟩
    simp [execOp, hx, hv, hl, Instr.sliceAt, Instr.slice, run_underlying h.u, Instr.sliceBounds, Instr.sliceBound, asIntOf, sizeOf, typeInfo, hi']
  · subst hv
    have hcut := hA.cut h1 (Nat.le_refl n)
    have e : (cs.drop (lo * sz)).take ((n - lo) * sz) = cs.drop (lo * sz) := List.take_of_length_le (by rw [List.length_drop, hA.1, ← Nat.sub_mul]; exact Nat.le_refl _)
    rw [e] at hcut
    refine ⟨_, hcut, fun w => ?_⟩
    have e2 : (Instr.sliceBound (.int k lo) n .sliceB).run P w = .ok lo w := run_sliceBound h1
    simp [execOp, hx, hl, Instr.sliceAt, Instr.slice, run_underlying h.u, Instr.sliceBounds, e2, sizeOf, typeInfo, hi', hsz]
/-- s[:hi] -/
theorem r_sliceH {t e sz bys : Nat} {z : Value} [h : Sl P t e sz bys z] {x y2 : Operand} {L : List Nat} {v : Value} {n : Nat} {cs : List Value} {H : Array Obj} {k : IntKind} {hi : Nat} (hA : Arr L H v n sz cs) (hx : ev f x = v) (hh : ev f y2 = .int k hi)
    (h1 : hi ≤ n) : ∃ v', Arr L H v' hi sz (cs.take (hi * sz)) ∧ ∀ w, (execOp (ev f) ⟨d, .slice t x none (some y2) none, ty, ps, af, gd⟩).run P w = .ok (.value v') w := by
  obtain ⟨i, hi', _, hsz, _⟩ := Sl.info h
  rcases hA.2.2 with ⟨hv, hn⟩ | ⟨a, cap, hv, hc, hat⟩
  · have e2 : hi = 0 := by omega
    subst e2
    refine ⟨.slice none 0 0, ⟨by simp, by omega, .inl ⟨rfl, rfl⟩⟩, fun w => ?_⟩
    simp [execOp, hx, hv, hh, Instr.sliceAt, Instr.slice, run_underlying h.u, Instr.sliceBounds, Instr.sliceBound, asIntOf, sizeOf, typeInfo, hi']
  · subst hv
    have hcut := hA.cut (Nat.zero_le hi) h1
    simp only [Nat.zero_mul, List.drop_zero, Nat.sub_zero] at hcut
    refine ⟨_, hcut, fun w => ?_⟩
    have e2 : (Instr.sliceBound (.int k hi) cap .sliceAcap).run P w = .ok hi w := run_sliceBound (by omega)
    simp [execOp, hx, hh, Instr.sliceAt, Instr.slice, run_underlying h.u, Instr.sliceBounds, e2, sizeOf, typeInfo, hi']
end

/-! ### Quiet forms, for a drawn region whose worlds are steps from w0 -/
section
variable {P : Program} {ops : List Oper} {K : Fr → World → Prop} {C : World → Prop} {f : Fr} {w w0 : World} {d : Option Nat} {ty : Nat} {ps : String} {af : Array Edge} {gd : Option (Nat × Bool)} {pl : List (Nat × Bool)} {i0 : Nat}
theorem pi {x y : Operand} {t e sz bys : Nat} {z : Value} [Sl P t e sz bys z] {L : List Nat} {n : Nat} {cs : List Value} {v : Value} {H : Array Obj} {k : IntKind} {i : Nat}
    (ho : opAt ops i0 = ⟨d, .indexAddr t x y, ty, ps, af, gd⟩) (h : Arr L H v n sz cs) (hv : ev f x = v) (hy : ev f y = .int k i) (hi : i < n)
    (hK : ∀ a, At L H a ((cs.drop (i * sz)).take sz) → XP P ops C K pl (putF f d (.pointer (some a))) w) (hg : gdF ops f (opAt ops i0) = true := by rfl) :
    XP P ops C K ((i0, true) :: pl) f w := by
  obtain ⟨a, cap, h1, h2⟩ := h.at hi
  refine Lg.p (fun w' => by rw [ho]; exact r_index (hv.trans h1) hy (by omega) (by omega)) ?_ hg
  rw [ho]
  refine hK _ ?_
  simpa using h2
theorem pii {x y : Operand} {t e bys : Nat} {z : Value} [Sl P t e 1 bys z] {L : List Nat} {li : List Int} {v : Value} {H : Array Obj} {k : IntKind} {i : Nat}
    (ho : opAt ops i0 = ⟨d, .indexAddr t x y, ty, ps, af, gd⟩) (h : Ints L H v li) (hv : ev f x = v) (hy : ev f y = .int k i) (hi : i < li.length)
    (hK : ∀ a, At L H a [.int .i64 li[i]] → XP P ops C K pl (putF f d (.pointer (some a))) w) (hg : gdF ops f (opAt ops i0) = true := by rfl) :
    XP P ops C K ((i0, true) :: pl) f w := by
  obtain ⟨a, cap, h1, h2⟩ := Ints.at h hi
  refine Lg.p (fun w' => by rw [ho]; exact r_index (hv.trans h1) hy (by omega) (by omega)) ?_ hg
  rw [ho]
  refine hK _ ?_
  simpa using h2
end

/-! ### Edges and automata -/
abbrev Ed := Int × Int × Int
def edCells (e : Ed) : List Value := [.int .i64 e.1, .int .i64 e.2.1, .int .i64 e.2.2]
abbrev Eds (L : List Nat) (H : Array Obj) (v : Value) (es : List Ed) : Prop := Arr L H v es.length 3 (es.flatMap edCells)
theorem flat_at {α : Type} (g : α → List Value) (sz : Nat) (hg : ∀ x, (g x).length = sz) : ∀ (l : List α) (i : Nat) (h : i < l.length), ((l.flatMap g).drop (i * sz)).take sz = g l[i]
  | x :: l, 0, _ => by simp [hg]
  | x :: l, i + 1, h => by
    have := flat_at g sz hg l i (by simpa using h)
    simp only [List.flatMap_cons, List.getElem_cons_succ]
    rw [← this, Nat.add_mul, Nat.one_mul, Nat.add_comm, List.drop_append, hg]
    simp [Nat.add_sub_cancel_left, List.drop_eq_nil_of_le, hg]
theorem flat_len {α : Type} (g : α → List Value) (sz : Nat) (hg : ∀ x, (g x).length = sz) (l : List α) : (l.flatMap g).length = l.length * sz := by
  induction l with
  | nil => simp
  | cons x l ih => simp [ih, hg, Nat.add_mul, Nat.add_comm]
theorem edCells_len (e : Ed) : (edCells e).length = 3 := rfl
/-- An automaton as plain data. -/
structure Aut where
  al : List Int
  st : Int
  mr : List Int
  ed : List Ed
structure AutA (L : List Nat) (H : Array Obj) (va vm ve : Value) (a : Aut) : Prop where
  al : Ints L H va a.al
  mr : Ints L H vm a.mr
  ed : Eds L H ve a.ed
/-- The value v is the automaton a. -/
def AutV (L : List Nat) (H : Array Obj) (v : Value) (a : Aut) : Prop := ∃ va vm ve, v = .agg #[va, .int .i64 a.st, vm, ve] ∧ AutA L H va vm ve a
theorem AutA.ext {L : List Nat} {w w' : World} {va vm ve : Value} {a : Aut} (h : AutA L w.heap va vm ve a) (hs : Step [] w w') : AutA L w'.heap va vm ve a := ⟨h.al.ext hs, h.mr.ext hs, h.ed.ext hs⟩
theorem AutA.st {L : List Nat} {w w' : World} {va vm ve : Value} {a : Aut} (h : AutA L w.heap va vm ve a) (hs : Step L w w') : AutA L w'.heap va vm ve a := ⟨h.al.st hs, h.mr.st hs, h.ed.st hs⟩
theorem AutA.up {L L' : List Nat} {H : Array Obj} {va vm ve : Value} {a : Aut} (h : AutA L H va vm ve a) (hL : ∀ b ∈ L', b ∈ L ∨ H.size ≤ b) : AutA L' H va vm ve a := ⟨h.al.up hL, h.mr.up hL, h.ed.up hL⟩
theorem AutA.v {L : List Nat} {H : Array Obj} {va vm ve : Value} {a : Aut} (h : AutA L H va vm ve a) : AutV L H (.agg #[va, .int .i64 a.st, vm, ve]) a := ⟨va, vm, ve, rfl, h⟩
theorem AutV.ext {L : List Nat} {w w' : World} {v : Value} {a : Aut} (h : AutV L w.heap v a) (hs : Step [] w w') : AutV L w'.heap v a := let ⟨va, vm, ve, h1, h2⟩ := h; ⟨va, vm, ve, h1, h2.ext hs⟩
theorem AutV.st {L : List Nat} {w w' : World} {v : Value} {a : Aut} (h : AutV L w.heap v a) (hs : Step L w w') : AutV L w'.heap v a := let ⟨va, vm, ve, h1, h2⟩ := h; ⟨va, vm, ve, h1, h2.st hs⟩
theorem AutV.up {L L' : List Nat} {H : Array Obj} {v : Value} {a : Aut} (h : AutV L H v a) (hL : ∀ b ∈ L', b ∈ L ∨ H.size ≤ b) : AutV L' H v a := let ⟨va, vm, ve, h1, h2⟩ := h; ⟨va, vm, ve, h1, h2.up hL⟩

/-! ### Small things -/
section
variable {P : Program} {f : Fr} {w : World} {d : Option Nat} {ty : Nat} {ps : String} {af : Array Edge} {gd : Option (Nat × Bool)}
class Ik (P : Program) (t : Nat) (k : outParam IntKind) : Prop where
  u : P.underlying t = some (.int k)
theorem r_conv {t t' : Nat} {k k' : IntKind} [h : Ik P t k] [h' : Ik P t' k'] {x : Operand} {n : Int} {k0 : IntKind} (hx : ev f x = .int k0 n) (hn : inK k' n) :
    (execOp (ev f) ⟨d, .convert t t' x, ty, ps, af, gd⟩).run P w = .ok (.value (.int k' n)) w := by
  simp [execOp, hx, convert, run_underlying h.u, run_underlying h'.u, Conv.intToInt, wrap_in hn]
theorem r_min {x y : Operand} {a b : Int} {k : IntKind} {ts : Array Nat} (hx : ev f x = .int k a) (hy : ev f y = .int k b) :
    (execOp (ev f) ⟨d, .call ⟨.builtin .min, #[x, y], ts⟩, ty, ps, af, gd⟩).run P w = .ok (.value (.int k (min a b))) w := by
  simp [execOp, resolve, invoke, builtin, Builtin.min_, Builtin.min2, hx, hy]; split <;> omega
theorem r_max {x y : Operand} {a b : Int} {k : IntKind} {ts : Array Nat} (hx : ev f x = .int k a) (hy : ev f y = .int k b) :
    (execOp (ev f) ⟨d, .call ⟨.builtin .max, #[x, y], ts⟩, ty, ps, af, gd⟩).run P w = .ok (.value (.int k (max a b))) w := by
  simp [execOp, resolve, invoke, builtin, Builtin.max_, Builtin.max2, hx, hy]; split <;> omega
class Bk (P : Program) (t : Nat) : Prop where
  u : P.underlying t = some .bool
class St (P : Program) (t : Nat) : Prop where
  u : P.underlying t = some .string
theorem r_eql_bool {t t' : Nat} [h : Bk P t] {x y : Operand} {a b : Bool} (hx : ev f x = .bool a) (hy : ev f y = .bool b) :
    (execOp (ev f) ⟨d, .binOp .eql t x y t', ty, ps, af, gd⟩).run P w = .ok (.value (.bool (a == b))) w := by
  have hg : (eqGuard .eql t x y (.bool a) (.bool b)).run P w = .ok () w := by simp [eqGuard]
  simp [execOp, hx, hy, hg, run_eql_bool (P := P) (w := w) t a b h.u]
end
theorem drop_cons {α : Type} {l : List α} {k : Nat} (h : k < l.length) : l.drop k = l[k] :: l.drop (k + 1) := List.drop_eq_getElem_cons h

/-! ### Elements of edges -/
theorem Eds.at {L : List Nat} {H : Array Obj} {v : Value} {es : List Ed} (h : Eds L H v es) {i : Nat} (hi : i < es.length) :
    ∃ a cap, v = .slice (some a) es.length cap ∧ At L H (a.add (i * 3)) (edCells es[i]) := by
  obtain ⟨a, cap, h1, h2⟩ := Arr.at h hi
  rw [flat_at edCells 3 edCells_len es i hi] at h2
  exact ⟨a, cap, h1, h2⟩
section
variable {P : Program} {ops : List Oper} {K : Fr → World → Prop} {f : Fr} {w : World} {d : Option Nat} {ty : Nat} {ps : String} {af : Array Edge} {gd : Option (Nat × Bool)} {l : List Oper} {C : World → Prop} {pl : List (Nat × Bool)} {i0 : Nat}
theorem xie {x y : Operand} {t e bys : Nat} {z : Value} [Sl P t e 3 bys z] {L : List Nat} {es : List Ed} {v : Value} {k : IntKind} {i : Nat}
    (h : Eds L w.heap v es) (hv : ev f x = v) (hy : ev f y = .int k i) (hi : i < es.length)
    (hK : ∀ a, At L w.heap a (edCells es[i]) → XL P ops K l (putF f d (.pointer (some a))) w) (hg : gdF ops f ⟨d, .indexAddr t x y, ty, ps, af, gd⟩ = true := by rfl) :
    XL P ops K (⟨d, .indexAddr t x y, ty, ps, af, gd⟩ :: l) f w := by
  obtain ⟨a, cap, h1, h2⟩ := Eds.at h hi
  refine xl hg (xv (r_index (hv.trans h1) hy (by omega) (by omega)) (hK _ ?_))
  simpa using h2
theorem pie {x y : Operand} {t e bys : Nat} {z : Value} [Sl P t e 3 bys z] {L : List Nat} {es : List Ed} {v : Value} {H : Array Obj} {k : IntKind} {i : Nat}
    (ho : opAt ops i0 = ⟨d, .indexAddr t x y, ty, ps, af, gd⟩) (h : Eds L H v es) (hv : ev f x = v) (hy : ev f y = .int k i) (hi : i < es.length)
    (hK : ∀ a, At L H a (edCells es[i]) → XP P ops C K pl (putF f d (.pointer (some a))) w) (hg : gdF ops f (opAt ops i0) = true := by rfl) :
    XP P ops C K ((i0, true) :: pl) f w := by
  obtain ⟨a, cap, h1, h2⟩ := Eds.at h hi
  refine Lg.p (fun w' => by rw [ho]; exact r_index (hv.trans h1) hy (by omega) (by omega)) ?_ hg
  rw [ho]
  refine hK _ ?_
  simpa using h2
end

section
variable {P : Program} {f : Fr} {w : World} {d : Option Nat} {ty : Nat} {ps : String} {af : Array Edge} {gd : Option (Nat × Bool)}
theorem r_shr {t t' : Nat} {x y : Operand} {k k' : IntKind} {a : Int} {n : Nat} (hx : ev f x = .int k a) (hy : ev f y = .int k' n) (hn : n ≤ k.bits) :
    (execOp (ev f) ⟨d, .binOp .shr t x y t', ty, ps, af, gd⟩).run P w = .ok (.value (.int k (a / 2 ^ n))) w := by
  refine r_bin hx hy ?_
  have h1 : ¬ ((n : Int) < 0) := by omega
  simp only [binOp, Op.shift, h1, if_false, Int.toNat_natCast, Nat.min_eq_left hn, Sem.run_pure]
  rw [Int.fdiv_eq_ediv_of_nonneg _ (Int.le_of_lt (Int.pow_pos (by decide)))]
/-- A struct of three ints, compared. -/
class S3 (P : Program) (t : Nat) : Prop where
  u : ∃ f0 f1 f2, P.underlying t = some (.struct #[f0, f1, f2]) ∧ f0.name ≠ "_" ∧ f1.name ≠ "_" ∧ f2.name ≠ "_" ∧ f0.offset = 0 ∧ f1.offset = 1 ∧ f2.offset = 2 ∧
    P.underlying f0.type = some (.int .i64) ∧ P.underlying f1.type = some (.int .i64) ∧ P.underlying f2.type = some (.int .i64)
  s : P.stoodInHeld t = false
  g : P.eqGuardType P.depth t = false
theorem run_equal_s3 {t : Nat} [h : S3 P t] (w : World) (p q : Ed) : (Op.equal t (.agg (edCells p).toArray) (.agg (edCells q).toArray)).run P w = .ok (decide (p = q)) w := by
  obtain ⟨a, b, c⟩ := p
  obtain ⟨a', b', c'⟩ := q
  obtain ⟨f0, f1, f2, hu, n0, n1, n2, o0, o1, o2, u0, u1, u2⟩ := h.u
  have hag : ∀ e w, P.underlying e = some (.int .i64) → (isAgg e).run P w = .ok false w := fun e w he => by simp [isAgg, run_underlying he]
  have hp : ∀ e (x y z : Int) (w : World), P.underlying e = some (.int .i64) → (part e #[.int .i64 x, .int .i64 y, .int .i64 z] 0).run P w = .ok (.int .i64 x) w := fun e x y z w he => by simp [part, hag e w he]
  have hp1 : ∀ e (x y z : Int) (w : World), P.underlying e = some (.int .i64) → (part e #[.int .i64 x, .int .i64 y, .int .i64 z] 1).run P w = .ok (.int .i64 y) w := fun e x y z w he => by simp [part, hag e w he]
  have hp2 : ∀ e (x y z : Int) (w : World), P.underlying e = some (.int .i64) → (part e #[.int .i64 x, .int .i64 y, .int .i64 z] 2).run P w = .ok (.int .i64 z) w := fun e x y z w he => by simp [part, hag e w he]
  have heq : ∀ e (m : Nat) (x y : Int) (w : World), P.underlying e = some (.int .i64) → (Op.equalIn (m + 1) e (.int .i64 x) (.int .i64 y)).run P w = .ok (x == y) w := fun e m x y w he => by simp [Op.equalIn, run_underlying he]
  have key : ∀ m, (Op.equalIn (m + 2) t (.agg (edCells (a, b, c)).toArray) (.agg (edCells (a', b', c')).toArray)).run P w = .ok (decide ((a, b, c) = (a', b', c'))) w := by
    intro m
    simp only [edCells]
    unfold Op.equalIn
    simp only [Sem.run_bind, run_underlying hu, Result.andThen_ok]
    by_cases e1 : a = a'
    · subst e1
      by_cases e2 : b = b'
      · subst e2
        by_cases e3 : c = c'
        · subst e3; simp [h.s, n0, n1, n2, o0, o1, o2, hp _ _ _ _ _ u0, hp1 _ _ _ _ _ u1, hp2 _ _ _ _ _ u2, heq _ _ _ _ _ u0, heq _ _ _ _ _ u1, heq _ _ _ _ _ u2]
        · simp [h.s, n0, n1, n2, o0, o1, o2, hp _ _ _ _ _ u0, hp1 _ _ _ _ _ u1, hp2 _ _ _ _ _ u2, heq _ _ _ _ _ u0, heq _ _ _ _ _ u1, heq _ _ _ _ _ u2, e3]
      · simp [h.s, n0, n1, o0, o1, hp _ _ _ _ _ u0, hp1 _ _ _ _ _ u1, heq _ _ _ _ _ u0, heq _ _ _ _ _ u1, e2]
    · simp [h.s, n0, o0, hp _ _ _ _ _ u0, heq _ _ _ _ _ u0, e1]
  exact key 9998
theorem r_neq_struct {t t' : Nat} [h : S3 P t] {x y : Operand} {p q : Ed} (hx : ev f x = .agg (edCells p).toArray) (hy : ev f y = .agg (edCells q).toArray) :
    (execOp (ev f) ⟨d, .binOp .neq t x y t', ty, ps, af, gd⟩).run P w = .ok (.value (.bool (decide (¬ p = q)))) w := by
  have hg : (eqGuard .neq t x y (.agg (edCells p).toArray) (.agg (edCells q).toArray)).run P w = .ok () w := by simp [eqGuard, h.g]
  simp only [execOp, hx, hy, Sem.run_bind, hg, Result.andThen_ok, binOp, run_equal_s3, Sem.run_pure]
  by_cases e : p = q <;> simp [e]
end

theorem Step.then1 {L : List Nat} {w0 w w' : World} {b : Nat} (h : Step L w0 w) (k : Step [b] w w') (hb : w0.heap.size ≤ b) : Step L w0 w' := h.then k (fun c hc => .inr (by simp at hc; omega))

section
variable {P : Program} {K : Fr → World → Prop} {f : Fr} {w : World} {d : Option Nat} {ty : Nat} {ps : String} {af : Array Edge} {gd : Option (Nat × Bool)}
/-- s == nil -/
theorem r_eqnil {t t' e sz bys : Nat} {z : Value} [h : Sl P t e sz bys z] {x y : Operand} {a : Option Addr} {n c : Nat} (hx : ev f x = .slice a n c) (hy : ev f y = .slice none 0 0) :
    (execOp (ev f) ⟨d, .binOp .eql t x y t', ty, ps, af, gd⟩).run P w = .ok (.value (.bool a.isNone)) w := by
  have hg : (eqGuard .eql t x y (.slice a n c) (.slice none 0 0)).run P w = .ok () w := by simp [eqGuard]
  have key : ∀ m, (Op.equalIn (m + 1) t (.slice a n c) (.slice none 0 0)).run P w = .ok a.isNone w := by
    intro m
    unfold Op.equalIn
    cases a <;> simp [run_underlying h.u]
  have he : (Op.equal t (.slice a n c) (.slice none 0 0)).run P w = .ok a.isNone w := key 9999
  simp only [execOp, hx, hy, Sem.run_bind, hg, Result.andThen_ok, binOp, he, Sem.run_pure]
/-- []T{} -/
theorem o_lit0 {t e sz bys : Nat} {z : Value} [h : Sl P t e sz bys z]
    (hK : ∀ b w', Step [] w w' → w.heap.size ≤ b → Blk w'.heap b e [] → K (putF f d (.slice (some ⟨b, 0, none⟩) 0 0)) w') : XO P ⟨d, .buildSlice t 0 #[], ty, ps, af, gd⟩ f w K := by
  obtain ⟨ie, hie, hz, hsz, _⟩ := Sl.info h
  have hr : (execOp (ev f) ⟨d, .buildSlice t 0 #[], ty, ps, af, gd⟩).run P w = .ok (.value (.slice (some ⟨w.heap.size, 0, none⟩) 0 0)) (w.alloc (.cells #[] e)) := by
    simp [execOp, Instr.buildSlice, run_underlying h.u, sizeOf, typeInfo, hie, Instr.fill, newRow]
    have e0 : Array.map (fun _ => (default : Value)) (Array.range 0) = #[] := by apply Array.ext'; simp
    rw [e0]
  exact xv hr (hK _ _ (Step.alloc w _) (Nat.le_refl _) (al_new w _))
end
/-- A slice of ints of the call's own, from block base on (e: the type int). -/
abbrev IntsO (e base : Nat) (w : World) (v : Value) (l : List Int) : Prop := w.ownsRow base e 1 v l.length (l.map (.int .i64))
theorem IntsO.ints {e base : Nat} {w : World} {v : Value} {l : List Int} {L : List Nat} (h : IntsO e base w v l) (hn : l.length ≤ 1099511627776) (hL : ∀ b ∈ L, b < base) : Ints L w.heap v l :=
  own_arr h hn (fun b hb hbL => by have := (own_ge h b hb).1; have := hL b hbL; omega)
theorem one_ints (l : List Int) : ∀ u ∈ l.map (Value.int .i64), u.oneCell' = true := by
  intro u hu; obtain ⟨n, _, rfl⟩ := List.mem_map.1 hu; rfl

section
variable {P : Program} {ops : List Oper} {K : Fr → World → Prop} {f : Fr} {w : World} {d : Option Nat} {ty : Nat} {ps : String} {af : Array Edge} {gd : Option (Nat × Bool)} {l : List Oper} {C : World → Prop} {pl : List (Nat × Bool)} {i0 : Nat}
  {t e sz bys : Nat} {z : Value} {x y1 y2 : Operand} {L : List Nat} {v : Value} {n : Nat} {cs : List Value} {H : Array Obj} {k k' : IntKind} {lo hi : Nat}
theorem pslL [h : Sl P t e sz bys z] (ho : opAt ops i0 = ⟨d, .slice t x (some y1) none none, ty, ps, af, gd⟩) (hA : Arr L H v n sz cs) (hx : ev f x = v) (hl : ev f y1 = .int k lo) (h1 : lo ≤ n) (hK : ∀ v', Arr L H v' (n - lo) sz (cs.drop (lo * sz)) → XP P ops C K pl (putF f d v') w)
    (hg : gdF ops f (opAt ops i0) = true := by rfl) : XP P ops C K ((i0, true) :: pl) f w := by
  obtain ⟨v', h2, h3⟩ := r_sliceL (P := P) (d := d) (ty := ty) (ps := ps) (af := af) (gd := gd) (t := t) hA hx hl h1
  exact Lg.p (fun w' => by rw [ho]; exact h3 w') (by rw [ho]; exact hK v' h2) hg
theorem xslL [h : Sl P t e sz bys z] (hA : Arr L H v n sz cs) (hx : ev f x = v) (hl : ev f y1 = .int k lo) (h1 : lo ≤ n) (hK : ∀ v', Arr L H v' (n - lo) sz (cs.drop (lo * sz)) → XL P ops K l (putF f d v') w)
    (hg : gdF ops f ⟨d, .slice t x (some y1) none none, ty, ps, af, gd⟩ = true := by rfl) : XL P ops K (⟨d, .slice t x (some y1) none none, ty, ps, af, gd⟩ :: l) f w := by
  obtain ⟨v', h2, h3⟩ := r_sliceL (P := P) (d := d) (ty := ty) (ps := ps) (af := af) (gd := gd) (t := t) hA hx hl h1
  exact xl hg (xv (h3 w) (hK v' h2))
theorem xslB [h : Sl P t e sz bys z] (hA : Arr L H v n sz cs) (hx : ev f x = v) (hl : ev f y1 = .int k lo) (hh : ev f y2 = .int k' hi) (h1 : lo ≤ hi) (h2 : hi ≤ n) (hK : ∀ v', Arr L H v' (hi - lo) sz ((cs.drop (lo * sz)).take ((hi - lo) * sz)) → XL P ops K l (putF f d v') w)
    (hg : gdF ops f ⟨d, .slice t x (some y1) (some y2) none, ty, ps, af, gd⟩ = true := by rfl) : XL P ops K (⟨d, .slice t x (some y1) (some y2) none, ty, ps, af, gd⟩ :: l) f w := by
  obtain ⟨v', h3, h4⟩ := r_slice (P := P) (d := d) (ty := ty) (ps := ps) (af := af) (gd := gd) (t := t) hA hx hl hh h1 h2
  exact xl hg (xv (h4 w) (hK v' h3))
theorem xslH [h : Sl P t e sz bys z] (hA : Arr L H v n sz cs) (hx : ev f x = v) (hh : ev f y2 = .int k hi) (h1 : hi ≤ n) (hK : ∀ v', Arr L H v' hi sz (cs.take (hi * sz)) → XL P ops K l (putF f d v') w)
    (hg : gdF ops f ⟨d, .slice t x none (some y2) none, ty, ps, af, gd⟩ = true := by rfl) : XL P ops K (⟨d, .slice t x none (some y2) none, ty, ps, af, gd⟩ :: l) f w := by
  obtain ⟨v', h2, h3⟩ := r_sliceH (P := P) (d := d) (ty := ty) (ps := ps) (af := af) (gd := gd) (t := t) hA hx hh h1
  exact xl hg (xv (h3 w) (hK v' h2))
end
theorem Ints.drop {L : List Nat} {H : Array Obj} {v : Value} {l : List Int} {lo : Nat} (h : Arr L H v (l.length - lo) 1 ((l.map (Value.int .i64)).drop (lo * 1))) : Ints L H v (l.drop lo) := by
  rw [Nat.mul_one, ← List.map_drop] at h
  have e : (l.drop lo).length = l.length - lo := List.length_drop
  unfold Ints
  rw [e]; exact h
theorem IntsO.snoc {e base : Nat} {w : World} {v : Value} {l : List Int} {n : Int} (h : w.ownsRow base e 1 v (l.length + 1) (l.map (Value.int .i64) ++ [.int .i64 n])) : IntsO e base w v (l ++ [n]) := by
  unfold IntsO
  rw [List.length_append, List.map_append]; exact h

/-! ### Several slices of the call's own -/
def Dj (u v : Value) : Prop := ∀ b ∈ ob u, b ∉ ob v
theorem Dj.symm {u v : Value} (h : Dj u v) : Dj v u := fun b hb hu => h b hu hb
theorem Dj.nil (v : Value) : Dj (.slice none 0 0) v := fun b hb => by simp [ob] at hb
theorem Dj.nil' (v : Value) : Dj v (.slice none 0 0) := (Dj.nil v).symm
theorem Dj.grow {u v v' : Value} {N : Nat} (h : Dj u v) (hn : ∀ b ∈ ob v', b ∈ ob v ∨ N ≤ b) (hu : ∀ b ∈ ob u, b < N) : Dj u v' :=
  fun b hb hv => by rcases hn b hv with h1 | h1; exact h b hb h1; have := hu b hb; omega
theorem own_lt {w : World} {base e sz n : Nat} {v : Value} {cs : List Value} (h : w.ownsRow base e sz v n cs) : ∀ b ∈ ob v, b < w.heap.size := fun b hb => (own_ge h b hb).2
theorem own_notin {w : World} {base e sz n : Nat} {v : Value} {cs : List Value} (h : w.ownsRow base e sz v n cs) {b : Nat} (hb : b < base) : b ∉ ob v := fun hm => by have := (own_ge h b hm).1; omega
abbrev EdsO (e base : Nat) (w : World) (v : Value) (l : List Ed) : Prop := w.ownsRow base e 3 v l.length (l.flatMap edCells)
theorem EdsO.snoc {e base : Nat} {w : World} {v : Value} {l : List Ed} {n : Ed} (h : w.ownsRow base e 3 v (l.length + 1) (l.flatMap edCells ++ edCells n)) : EdsO e base w v (l ++ [n]) := by
  unfold EdsO
  rw [List.length_append, List.flatMap_append]; simpa using h
theorem EdsO.eds {e base : Nat} {w : World} {v : Value} {l : List Ed} {L : List Nat} (h : EdsO e base w v l) (hn : l.length ≤ 1099511627776) (hL : ∀ b ∈ L, b < base) : Eds L w.heap v l :=
  own_arr h hn (fun b hb hbL => by have := (own_ge h b hb).1; have := hL b hbL; omega)
/-- A new automaton: all of its memory lies from block N on. -/
def AutF (N : Nat) (H : Array Obj) (v : Value) (a : Aut) : Prop := ∃ va vm ve, v = .agg #[va, .int .i64 a.st, vm, ve] ∧ ∀ L : List Nat, (∀ b ∈ L, b < N) → AutA L H va vm ve a
theorem AutF.v {N : Nat} {H : Array Obj} {v : Value} {a : Aut} (h : AutF N H v a) {L : List Nat} (hL : ∀ b ∈ L, b < N) : AutV L H v a := let ⟨va, vm, ve, h1, h2⟩ := h; ⟨va, vm, ve, h1, h2 L hL⟩
theorem AutF.ext {N : Nat} {w w' : World} {v : Value} {a : Aut} (h : AutF N w.heap v a) (hs : Step [] w w') : AutF N w'.heap v a := let ⟨va, vm, ve, h1, h2⟩ := h; ⟨va, vm, ve, h1, fun L hL => (h2 L hL).ext hs⟩
theorem AutF.mono {N M : Nat} {H : Array Obj} {v : Value} {a : Aut} (h : AutF N H v a) (hM : M ≤ N) : AutF M H v a := let ⟨va, vm, ve, h1, h2⟩ := h; ⟨va, vm, ve, h1, fun L hL => h2 L (fun b hb => Nat.lt_of_lt_of_le (hL b hb) hM)⟩
section
variable {P : Program} {K : Fr → World → Prop} {f : Fr} {w : World} {d : Option Nat} {ty : Nat} {ps : String} {af : Array Edge} {gd : Option (Nat × Bool)}
/-- A cell of a block of integers. -/
theorem r_loadI {t : Nat} [One P t] {x : Operand} {b T i : Nat} {l : List Int} (h : Blk w.heap b T (l.map (.int .i64))) (hx : ev f x = .pointer (some ⟨b, 0 + i * 1, none⟩)) (hi : i < l.length) :
    (execOp (ev f) ⟨d, .load t x, ty, ps, af, gd⟩).run P w = .ok (.value (.int .i64 l[i])) w := r_loadB h hx (by simp [hi])
theorem o_storeI {t : Nat} [h1 : One P t] {x y : Operand} {b T i : Nat} {l : List Int} {u : Int} (hB : Blk w.heap b T (l.map (.int .i64))) (hx : ev f x = .pointer (some ⟨b, 0 + i * 1, none⟩)) (hy : ev f y = .int .i64 u) (hi : i < l.length)
    (hK : ∀ w', Step [b] w w' → Blk w'.heap b T ((l.set i u).map (.int .i64)) → K (putF f d undef) w') : XO P ⟨d, .store t x y, ty, ps, af, gd⟩ f w K := by
  refine o_store hB hx hy (by simpa using hi) rfl fun w' hs hB' => hK w' hs ?_
  rw [List.map_set]
  simpa using hB'
end
theorem rep_flat (n : Nat) (u : Value) : (List.replicate n [u]).flatten = List.replicate n u := by
  induction n with
  | zero => rfl
  | succ n ih => simp [List.replicate_succ, ih]
end Go.Lg
/- Facts on the types and functions of this translation, found by instance. Written by wip/tools/ir.py. -/
namespace Go.Proofs
open Go.Lg
instance : Sl Tryz.prog 32 3 1 8 (.int .i64 0) := ⟨Tryz.underlying32, by kernel_rfl, rfl, by decide⟩
instance : Sl Tryz.prog 33 85 3 24 (.agg #[.int .i64 0, .int .i64 0, .int .i64 0]) := ⟨Tryz.underlying33, by kernel_rfl, rfl, by decide⟩
instance : Sl Tryz.prog 55 69 4 56 (.agg #[.slice none 0 0, .slice none 0 0, .bool false, .bool false]) := ⟨Tryz.underlying55, by kernel_rfl, rfl, by decide⟩
instance : Sl Tryz.prog 73 32 1 24 (.slice none 0 0) := ⟨Tryz.underlying73, by kernel_rfl, rfl, by decide⟩
instance : Sl Tryz.prog 93 4 1 1 (.bool false) := ⟨Tryz.underlying93, by kernel_rfl, rfl, by decide⟩
instance : Sl Tryz.prog 110 109 3 40 (.agg #[.int .i64 0, .int .i64 0, .slice none 0 0]) := ⟨Tryz.underlying110, by kernel_rfl, rfl, by decide⟩
instance : Sl Tryz.prog 121 35 4 80 (.agg #[.slice none 0 0, .int .i64 0, .slice none 0 0, .slice none 0 0]) := ⟨Tryz.underlying121, by kernel_rfl, rfl, by decide⟩
instance : Sl Tryz.prog 125 124 3 24 (.agg #[.int .i64 0, .int .i64 0, .int .i64 0]) := ⟨Tryz.underlying125, by kernel_rfl, rfl, by decide⟩
instance : Sl Tryz.prog 145 79 1 8 (.map none) := ⟨Tryz.underlying145, by kernel_rfl, rfl, by decide⟩
instance : Sl Tryz.prog 161 5 1 1 (.int .u8 0) := ⟨Tryz.underlying161, by kernel_rfl, rfl, by decide⟩
instance : FOff Tryz.prog 26 0 0 := ⟨by kernel_rfl⟩
instance : FOff Tryz.prog 26 1 1 := ⟨by kernel_rfl⟩
instance : FOff Tryz.prog 26 2 2 := ⟨by kernel_rfl⟩
instance : FOff Tryz.prog 28 0 0 := ⟨by kernel_rfl⟩
instance : FOff Tryz.prog 28 1 1 := ⟨by kernel_rfl⟩
instance : FOff Tryz.prog 30 0 0 := ⟨by kernel_rfl⟩
instance : FOff Tryz.prog 30 1 28 := ⟨by kernel_rfl⟩
instance : FOff Tryz.prog 30 2 56 := ⟨by kernel_rfl⟩
instance : FOff Tryz.prog 35 0 0 := ⟨by kernel_rfl⟩
instance : FOff Tryz.prog 35 1 1 := ⟨by kernel_rfl⟩
instance : FOff Tryz.prog 35 2 2 := ⟨by kernel_rfl⟩
instance : FOff Tryz.prog 35 3 3 := ⟨by kernel_rfl⟩
instance : FOff Tryz.prog 69 0 0 := ⟨by kernel_rfl⟩
instance : FOff Tryz.prog 69 1 1 := ⟨by kernel_rfl⟩
instance : FOff Tryz.prog 69 2 2 := ⟨by kernel_rfl⟩
instance : FOff Tryz.prog 69 3 3 := ⟨by kernel_rfl⟩
instance : FOff Tryz.prog 81 0 0 := ⟨by kernel_rfl⟩
instance : FOff Tryz.prog 81 1 1 := ⟨by kernel_rfl⟩
instance : FOff Tryz.prog 81 2 2 := ⟨by kernel_rfl⟩
instance : FOff Tryz.prog 81 3 3 := ⟨by kernel_rfl⟩
instance : FOff Tryz.prog 81 4 4 := ⟨by kernel_rfl⟩
instance : FOff Tryz.prog 81 5 8 := ⟨by kernel_rfl⟩
instance : FOff Tryz.prog 85 0 0 := ⟨by kernel_rfl⟩
instance : FOff Tryz.prog 85 1 1 := ⟨by kernel_rfl⟩
instance : FOff Tryz.prog 85 2 2 := ⟨by kernel_rfl⟩
instance : FOff Tryz.prog 89 0 0 := ⟨by kernel_rfl⟩
instance : FOff Tryz.prog 89 1 4 := ⟨by kernel_rfl⟩
instance : FOff Tryz.prog 109 0 0 := ⟨by kernel_rfl⟩
instance : FOff Tryz.prog 109 1 1 := ⟨by kernel_rfl⟩
instance : FOff Tryz.prog 109 2 2 := ⟨by kernel_rfl⟩
instance : FOff Tryz.prog 124 0 0 := ⟨by kernel_rfl⟩
instance : FOff Tryz.prog 124 1 1 := ⟨by kernel_rfl⟩
instance : FOff Tryz.prog 124 2 2 := ⟨by kernel_rfl⟩
instance : FOff Tryz.prog 132 0 0 := ⟨by kernel_rfl⟩
instance : FOff Tryz.prog 132 1 1 := ⟨by kernel_rfl⟩
instance : FOff Tryz.prog 132 2 2 := ⟨by kernel_rfl⟩
instance : FOff Tryz.prog 147 0 0 := ⟨by kernel_rfl⟩
instance : FOff Tryz.prog 147 1 1 := ⟨by kernel_rfl⟩
instance : FOff Tryz.prog 147 2 2 := ⟨by kernel_rfl⟩
instance : FOff Tryz.prog 163 0 0 := ⟨by kernel_rfl⟩
instance : FOff Tryz.prog 163 1 1 := ⟨by kernel_rfl⟩
instance : One Tryz.prog 3 := ⟨⟨_, Tryz.underlying3, rfl⟩, by kernel_rfl⟩
instance : One Tryz.prog 4 := ⟨⟨_, Tryz.underlying4, rfl⟩, by kernel_rfl⟩
instance : One Tryz.prog 5 := ⟨⟨_, Tryz.underlying5, rfl⟩, by kernel_rfl⟩
instance : One Tryz.prog 22 := ⟨⟨_, Tryz.underlying22, rfl⟩, by kernel_rfl⟩
instance : One Tryz.prog 32 := ⟨⟨_, Tryz.underlying32, rfl⟩, by kernel_rfl⟩
instance : One Tryz.prog 33 := ⟨⟨_, Tryz.underlying33, rfl⟩, by kernel_rfl⟩
instance : One Tryz.prog 55 := ⟨⟨_, Tryz.underlying55, rfl⟩, by kernel_rfl⟩
instance : One Tryz.prog 73 := ⟨⟨_, Tryz.underlying73, rfl⟩, by kernel_rfl⟩
instance : One Tryz.prog 79 := ⟨⟨_, Tryz.underlying79, rfl⟩, by kernel_rfl⟩
instance : One Tryz.prog 86 := ⟨⟨_, Tryz.underlying86, rfl⟩, by kernel_rfl⟩
instance : One Tryz.prog 93 := ⟨⟨_, Tryz.underlying93, rfl⟩, by kernel_rfl⟩
instance : One Tryz.prog 121 := ⟨⟨_, Tryz.underlying121, rfl⟩, by kernel_rfl⟩
instance : One Tryz.prog 125 := ⟨⟨_, Tryz.underlying125, rfl⟩, by kernel_rfl⟩
instance : One Tryz.prog 145 := ⟨⟨_, Tryz.underlying145, rfl⟩, by kernel_rfl⟩
instance : One Tryz.prog 160 := ⟨⟨_, Tryz.underlying160, rfl⟩, by kernel_rfl⟩
instance : One Tryz.prog 161 := ⟨⟨_, Tryz.underlying161, rfl⟩, by kernel_rfl⟩
instance : One Tryz.prog 178 := ⟨⟨_, Tryz.underlying178, rfl⟩, by kernel_rfl⟩
instance : Ag Tryz.prog 26 27 := ⟨⟨_, Tryz.underlying26, rfl⟩, by kernel_rfl⟩
instance : Ag Tryz.prog 30 57 := ⟨⟨_, Tryz.underlying30, rfl⟩, by kernel_rfl⟩
instance : Ag Tryz.prog 35 4 := ⟨⟨_, Tryz.underlying35, rfl⟩, by kernel_rfl⟩
instance : Ag Tryz.prog 69 4 := ⟨⟨_, Tryz.underlying69, rfl⟩, by kernel_rfl⟩
instance : Ag Tryz.prog 85 3 := ⟨⟨_, Tryz.underlying85, rfl⟩, by kernel_rfl⟩
instance : Ag Tryz.prog 89 5 := ⟨⟨_, Tryz.underlying89, rfl⟩, by kernel_rfl⟩
instance : Ag Tryz.prog 104 2 := ⟨⟨_, Tryz.underlying104, rfl⟩, by kernel_rfl⟩
instance : Ag Tryz.prog 109 3 := ⟨⟨_, Tryz.underlying109, rfl⟩, by kernel_rfl⟩
instance : Ag Tryz.prog 147 3 := ⟨⟨_, Tryz.underlying147, rfl⟩, by kernel_rfl⟩
instance : Ze Tryz.prog 3 (.int .i64 0) := ⟨by kernel_rfl⟩
instance : Ze Tryz.prog 35 (.agg #[.slice none 0 0, .int .i64 0, .slice none 0 0, .slice none 0 0]) := ⟨by kernel_rfl⟩
instance : Ze Tryz.prog 85 (.agg #[.int .i64 0, .int .i64 0, .int .i64 0]) := ⟨by kernel_rfl⟩
instance : Ze Tryz.prog 89 (.agg #[.slice none 0 0, .int .i64 0, .slice none 0 0, .slice none 0 0, .slice none 0 0]) := ⟨by kernel_rfl⟩
instance : Ze Tryz.prog 93 (.slice none 0 0) := ⟨by kernel_rfl⟩
instance : Ze Tryz.prog 104 (.agg #[.int .i64 0, .int .i64 0]) := ⟨by kernel_rfl⟩
instance : Ze Tryz.prog 109 (.agg #[.int .i64 0, .int .i64 0, .slice none 0 0]) := ⟨by kernel_rfl⟩
instance : Ze Tryz.prog 125 (.slice none 0 0) := ⟨by kernel_rfl⟩
instance : Ze Tryz.prog 147 (.agg #[.slice none 0 0, .slice none 0 0, .slice none 0 0]) := ⟨by kernel_rfl⟩
instance : Ze Tryz.prog 163 (.agg #[.pointer none, .slice none 0 0]) := ⟨by kernel_rfl⟩
instance : Ze Tryz.prog 177 (.agg #[.int .u8 0, .int .u8 0, .int .u8 0, .int .u8 0, .int .u8 0, .int .u8 0, .int .u8 0, .int .u8 0, .int .u8 0, .int .u8 0, .int .u8 0, .int .u8 0, .int .u8 0, .int .u8 0, .int .u8 0, .int .u8 0, .int .u8 0, .int .u8 0, .int .u8 0, .int .u8 0, .int .u8 0, .int .u8 0, .int .u8 0, .int .u8 0]) := ⟨by kernel_rfl⟩
instance : Ze Tryz.prog 186 (.agg #[.int .u8 0, .int .u8 0, .int .u8 0, .int .u8 0, .int .u8 0, .int .u8 0, .int .u8 0, .int .u8 0, .int .u8 0, .int .u8 0, .int .u8 0, .int .u8 0, .int .u8 0, .int .u8 0, .int .u8 0, .int .u8 0, .int .u8 0, .int .u8 0, .int .u8 0, .int .u8 0, .int .u8 0, .int .u8 0, .int .u8 0, .int .u8 0, .int .u8 0, .int .u8 0, .int .u8 0, .int .u8 0, .int .u8 0, .int .u8 0, .int .u8 0, .int .u8 0, .int .u8 0, .int .u8 0, .int .u8 0, .int .u8 0, .int .u8 0, .int .u8 0, .int .u8 0, .int .u8 0, .int .u8 0, .int .u8 0, .int .u8 0, .int .u8 0, .int .u8 0, .int .u8 0, .int .u8 0, .int .u8 0, .int .u8 0, .int .u8 0, .int .u8 0, .int .u8 0, .int .u8 0, .int .u8 0, .int .u8 0, .int .u8 0, .int .u8 0, .int .u8 0, .int .u8 0, .int .u8 0, .int .u8 0, .int .u8 0, .int .u8 0, .int .u8 0, .int .u8 0]) := ⟨by kernel_rfl⟩
instance : Bs Tryz.prog 35 [.slice none 0 0, .int .i64 0, .slice none 0 0, .slice none 0 0] [0, 1, 2, 3] := ⟨by kernel_rfl, by decide⟩
instance : Bs Tryz.prog 52 [.slice none 0 0, .slice none 0 0] [0, 1] := ⟨by kernel_rfl, by decide⟩
instance : Bs Tryz.prog 85 [.int .i64 0, .int .i64 0, .int .i64 0] [0, 1, 2] := ⟨by kernel_rfl, by decide⟩
instance : Bs Tryz.prog 104 [.int .i64 0, .int .i64 0] [0, 1] := ⟨by kernel_rfl, by decide⟩
instance : Bs Tryz.prog 109 [.int .i64 0, .int .i64 0, .slice none 0 0] [0, 1, 2] := ⟨by kernel_rfl, by decide⟩
instance : Bs Tryz.prog 124 [.int .i64 0, .int .i64 0, .int .i64 0] [0, 1, 2] := ⟨by kernel_rfl, by decide⟩
instance : Bs Tryz.prog 132 [.slice none 0 0, .slice none 0 0, .map none] [0, 1, 2] := ⟨by kernel_rfl, by decide⟩
instance : Bs Tryz.prog 147 [.slice none 0 0, .slice none 0 0, .slice none 0 0] [0, 1, 2] := ⟨by kernel_rfl, by decide⟩
instance : Ik Tryz.prog 2 .i64 := ⟨Tryz.underlying2⟩
instance : Ik Tryz.prog 3 .i64 := ⟨Tryz.underlying3⟩
instance : Bk Tryz.prog 4 := ⟨Tryz.underlying4⟩
instance : Ik Tryz.prog 5 .u8 := ⟨Tryz.underlying5⟩
instance : Ik Tryz.prog 6 .u8 := ⟨Tryz.underlying6⟩
instance : St Tryz.prog 9 := ⟨Tryz.underlying9⟩
instance : St Tryz.prog 10 := ⟨Tryz.underlying10⟩
instance : St Tryz.prog 11 := ⟨Tryz.underlying11⟩
instance : Ik Tryz.prog 12 .u64 := ⟨Tryz.underlying12⟩
instance : Ik Tryz.prog 21 .i32 := ⟨Tryz.underlying21⟩
instance : Ik Tryz.prog 22 .u8 := ⟨Tryz.underlying22⟩
instance : Ik Tryz.prog 38 .i64 := ⟨Tryz.underlying38⟩
instance : Ik Tryz.prog 171 .u64 := ⟨Tryz.underlying171⟩
instance : Ik Tryz.prog 178 .u64 := ⟨Tryz.underlying178⟩
instance : Ik Tryz.prog 185 .u32 := ⟨Tryz.underlying185⟩
instance : Ik Tryz.prog 197 .u8 := ⟨Tryz.underlying197⟩
instance : Ik Tryz.prog 198 .u8 := ⟨Tryz.underlying198⟩
instance : Ik Tryz.prog 200 .i32 := ⟨Tryz.underlying200⟩
instance : Ik Tryz.prog 201 .i32 := ⟨Tryz.underlying201⟩
instance : S3 Tryz.prog 85 := ⟨⟨_, _, _, Tryz.underlying85, by decide, by decide, by decide, rfl, rfl, rfl, Tryz.underlying3, Tryz.underlying3, Tryz.underlying3⟩, by kernel_rfl, by kernel_rfl⟩
instance : S3 Tryz.prog 124 := ⟨⟨_, _, _, Tryz.underlying124, by decide, by decide, by decide, rfl, rfl, rfl, Tryz.underlying3, Tryz.underlying3, Tryz.underlying3⟩, by kernel_rfl, by kernel_rfl⟩
instance : Mp Tryz.prog 79 104 3 (.int .i64 0) := ⟨Tryz.underlying79, by kernel_rfl⟩
instance : Key Tryz.prog 104 kPair := key_pair Tryz.underlying104 Tryz.underlying3 (by kernel_rfl)
instance : Mp Tryz.prog 111 104 4 (.bool false) := ⟨Tryz.underlying111, by kernel_rfl⟩
instance : Mp Tryz.prog 134 3 3 (.int .i64 0) := ⟨Tryz.underlying134, by kernel_rfl⟩
instance : Key Tryz.prog 3 kInt := key_int Tryz.underlying3
instance : Mp Tryz.prog 151 9 3 (.int .i64 0) := ⟨Tryz.underlying151, by kernel_rfl⟩
instance : Key Tryz.prog 9 kStr := key_str Tryz.underlying9
instance : Fu Tryz.prog 3 Tryz.f3 := ⟨Tryz.func3, by kernel_rfl, by kernel_rfl⟩
instance : Fu Tryz.prog 4 Tryz.f4 := ⟨Tryz.func4, by kernel_rfl, by kernel_rfl⟩
instance : Fu Tryz.prog 5 Tryz.f5 := ⟨Tryz.func5, by kernel_rfl, by kernel_rfl⟩
instance : Fu Tryz.prog 6 Tryz.f6 := ⟨Tryz.func6, by kernel_rfl, by kernel_rfl⟩
instance : Fu Tryz.prog 7 Tryz.f7 := ⟨Tryz.func7, by kernel_rfl, by kernel_rfl⟩
instance : Fu Tryz.prog 8 Tryz.f8 := ⟨Tryz.func8, by kernel_rfl, by kernel_rfl⟩
instance : Fu Tryz.prog 9 Tryz.f9 := ⟨Tryz.func9, by kernel_rfl, by kernel_rfl⟩
instance : Fu Tryz.prog 10 Tryz.f10 := ⟨Tryz.func10, by kernel_rfl, by kernel_rfl⟩
instance : Fu Tryz.prog 11 Tryz.f11 := ⟨Tryz.func11, by kernel_rfl, by kernel_rfl⟩
instance : Fu Tryz.prog 12 Tryz.f12 := ⟨Tryz.func12, by kernel_rfl, by kernel_rfl⟩
instance : Fu Tryz.prog 13 Tryz.f13 := ⟨Tryz.func13, by kernel_rfl, by kernel_rfl⟩
instance : Fu Tryz.prog 14 Tryz.f14 := ⟨Tryz.func14, by kernel_rfl, by kernel_rfl⟩
instance : Fu Tryz.prog 15 Tryz.f15 := ⟨Tryz.func15, by kernel_rfl, by kernel_rfl⟩
instance : Fu Tryz.prog 16 Tryz.f16 := ⟨Tryz.func16, by kernel_rfl, by kernel_rfl⟩
instance : Fu Tryz.prog 17 Tryz.f17 := ⟨Tryz.func17, by kernel_rfl, by kernel_rfl⟩
instance : Fu Tryz.prog 18 Tryz.f18 := ⟨Tryz.func18, by kernel_rfl, by kernel_rfl⟩
instance : Fu Tryz.prog 19 Tryz.f19 := ⟨Tryz.func19, by kernel_rfl, by kernel_rfl⟩
instance : Fu Tryz.prog 20 Tryz.f20 := ⟨Tryz.func20, by kernel_rfl, by kernel_rfl⟩
instance : Fu Tryz.prog 21 Tryz.f21 := ⟨Tryz.func21, by kernel_rfl, by kernel_rfl⟩
instance : Fu Tryz.prog 22 Tryz.f22 := ⟨Tryz.func22, by kernel_rfl, by kernel_rfl⟩
instance : Fu Tryz.prog 23 Tryz.f23 := ⟨Tryz.func23, by kernel_rfl, by kernel_rfl⟩
instance : Fu Tryz.prog 24 Tryz.f24 := ⟨Tryz.func24, by kernel_rfl, by kernel_rfl⟩
instance : Fu Tryz.prog 25 Tryz.f25 := ⟨Tryz.func25, by kernel_rfl, by kernel_rfl⟩
instance : Fu Tryz.prog 26 Tryz.f26 := ⟨Tryz.func26, by kernel_rfl, by kernel_rfl⟩
instance : Fu Tryz.prog 27 Tryz.f27 := ⟨Tryz.func27, by kernel_rfl, by kernel_rfl⟩
instance : Fu Tryz.prog 28 Tryz.f28 := ⟨Tryz.func28, by kernel_rfl, by kernel_rfl⟩
instance : Fu Tryz.prog 29 Tryz.f29 := ⟨Tryz.func29, by kernel_rfl, by kernel_rfl⟩
instance : Fu Tryz.prog 30 Tryz.f30 := ⟨Tryz.func30, by kernel_rfl, by kernel_rfl⟩
instance : Fu Tryz.prog 31 Tryz.f31 := ⟨Tryz.func31, by kernel_rfl, by kernel_rfl⟩
instance : Fu Tryz.prog 32 Tryz.f32 := ⟨Tryz.func32, by kernel_rfl, by kernel_rfl⟩
instance : Fu Tryz.prog 33 Tryz.f33 := ⟨Tryz.func33, by kernel_rfl, by kernel_rfl⟩
instance : Fu Tryz.prog 34 Tryz.f34 := ⟨Tryz.func34, by kernel_rfl, by kernel_rfl⟩
instance : Fu Tryz.prog 35 Tryz.f35 := ⟨Tryz.func35, by kernel_rfl, by kernel_rfl⟩
instance : Fu Tryz.prog 36 Tryz.f36 := ⟨Tryz.func36, by kernel_rfl, by kernel_rfl⟩
instance : Fu Tryz.prog 37 Tryz.f37 := ⟨Tryz.func37, by kernel_rfl, by kernel_rfl⟩
instance : Fu Tryz.prog 38 Tryz.f38 := ⟨Tryz.func38, by kernel_rfl, by kernel_rfl⟩
instance : Fu Tryz.prog 39 Tryz.f39 := ⟨Tryz.func39, by kernel_rfl, by kernel_rfl⟩
instance : Fu Tryz.prog 40 Tryz.f40 := ⟨Tryz.func40, by kernel_rfl, by kernel_rfl⟩
instance : Fu Tryz.prog 41 Tryz.f41 := ⟨Tryz.func41, by kernel_rfl, by kernel_rfl⟩
instance : Fu Tryz.prog 42 Tryz.f42 := ⟨Tryz.func42, by kernel_rfl, by kernel_rfl⟩
instance : Fu Tryz.prog 43 Tryz.f43 := ⟨Tryz.func43, by kernel_rfl, by kernel_rfl⟩
instance : Fu Tryz.prog 44 Tryz.f44 := ⟨Tryz.func44, by kernel_rfl, by kernel_rfl⟩
instance : Fu Tryz.prog 45 Tryz.f45 := ⟨Tryz.func45, by kernel_rfl, by kernel_rfl⟩
instance : Fu Tryz.prog 46 Tryz.f46 := ⟨Tryz.func46, by kernel_rfl, by kernel_rfl⟩
instance : Fu Tryz.prog 47 Tryz.f47 := ⟨Tryz.func47, by kernel_rfl, by kernel_rfl⟩
instance : Fu Tryz.prog 48 Tryz.f48 := ⟨Tryz.func48, by kernel_rfl, by kernel_rfl⟩
instance : Fu Tryz.prog 49 Tryz.f49 := ⟨Tryz.func49, by kernel_rfl, by kernel_rfl⟩
instance : Fu Tryz.prog 50 Tryz.f50 := ⟨Tryz.func50, by kernel_rfl, by kernel_rfl⟩
instance : Fu Tryz.prog 51 Tryz.f51 := ⟨Tryz.func51, by kernel_rfl, by kernel_rfl⟩
instance : Fu Tryz.prog 52 Tryz.f52 := ⟨Tryz.func52, by kernel_rfl, by kernel_rfl⟩
instance : Fu Tryz.prog 53 Tryz.f53 := ⟨Tryz.func53, by kernel_rfl, by kernel_rfl⟩
instance : Fu Tryz.prog 54 Tryz.f54 := ⟨Tryz.func54, by kernel_rfl, by kernel_rfl⟩
instance : Fu Tryz.prog 55 Tryz.f55 := ⟨Tryz.func55, by kernel_rfl, by kernel_rfl⟩
instance : Fu Tryz.prog 56 Tryz.f56 := ⟨Tryz.func56, by kernel_rfl, by kernel_rfl⟩
instance : Fu Tryz.prog 57 Tryz.f57 := ⟨Tryz.func57, by kernel_rfl, by kernel_rfl⟩
instance : Fu Tryz.prog 58 Tryz.f58 := ⟨Tryz.func58, by kernel_rfl, by kernel_rfl⟩
instance : Fu Tryz.prog 59 Tryz.f59 := ⟨Tryz.func59, by kernel_rfl, by kernel_rfl⟩
instance : Fu Tryz.prog 60 Tryz.f60 := ⟨Tryz.func60, by kernel_rfl, by kernel_rfl⟩
instance : Fu Tryz.prog 61 Tryz.f61 := ⟨Tryz.func61, by kernel_rfl, by kernel_rfl⟩
instance : Fu Tryz.prog 62 Tryz.f62 := ⟨Tryz.func62, by kernel_rfl, by kernel_rfl⟩
instance : Fu Tryz.prog 63 Tryz.f63 := ⟨Tryz.func63, by kernel_rfl, by kernel_rfl⟩
instance : Fu Tryz.prog 64 Tryz.f64 := ⟨Tryz.func64, by kernel_rfl, by kernel_rfl⟩
instance : Fu Tryz.prog 65 Tryz.f65 := ⟨Tryz.func65, by kernel_rfl, by kernel_rfl⟩
instance : Fu Tryz.prog 66 Tryz.f66 := ⟨Tryz.func66, by kernel_rfl, by kernel_rfl⟩
instance : Fu Tryz.prog 67 Tryz.f67 := ⟨Tryz.func67, by kernel_rfl, by kernel_rfl⟩
instance : Fu Tryz.prog 68 Tryz.f68 := ⟨Tryz.func68, by kernel_rfl, by kernel_rfl⟩
instance : Fu Tryz.prog 69 Tryz.f69 := ⟨Tryz.func69, by kernel_rfl, by kernel_rfl⟩
instance : Fu Tryz.prog 70 Tryz.f70 := ⟨Tryz.func70, by kernel_rfl, by kernel_rfl⟩
instance : Fu Tryz.prog 71 Tryz.f71 := ⟨Tryz.func71, by kernel_rfl, by kernel_rfl⟩
instance : Fu Tryz.prog 72 Tryz.f72 := ⟨Tryz.func72, by kernel_rfl, by kernel_rfl⟩
instance : Fu Tryz.prog 73 Tryz.f73 := ⟨Tryz.func73, by kernel_rfl, by kernel_rfl⟩
instance : Fu Tryz.prog 74 Tryz.f74 := ⟨Tryz.func74, by kernel_rfl, by kernel_rfl⟩
instance : Fu Tryz.prog 75 Tryz.f75 := ⟨Tryz.func75, by kernel_rfl, by kernel_rfl⟩
instance : Fu Tryz.prog 76 Tryz.f76 := ⟨Tryz.func76, by kernel_rfl, by kernel_rfl⟩
instance : Fu Tryz.prog 77 Tryz.f77 := ⟨Tryz.func77, by kernel_rfl, by kernel_rfl⟩
instance : Fu Tryz.prog 78 Tryz.f78 := ⟨Tryz.func78, by kernel_rfl, by kernel_rfl⟩
instance : Fu Tryz.prog 79 Tryz.f79 := ⟨Tryz.func79, by kernel_rfl, by kernel_rfl⟩
instance : Fu Tryz.prog 80 Tryz.f80 := ⟨Tryz.func80, by kernel_rfl, by kernel_rfl⟩
instance : Fu Tryz.prog 81 Tryz.f81 := ⟨Tryz.func81, by kernel_rfl, by kernel_rfl⟩
instance : Fu Tryz.prog 82 Tryz.f82 := ⟨Tryz.func82, by kernel_rfl, by kernel_rfl⟩
instance : Fu Tryz.prog 83 Tryz.f83 := ⟨Tryz.func83, by kernel_rfl, by kernel_rfl⟩
instance : Fu Tryz.prog 84 Tryz.f84 := ⟨Tryz.func84, by kernel_rfl, by kernel_rfl⟩
instance : Fu Tryz.prog 85 Tryz.f85 := ⟨Tryz.func85, by kernel_rfl, by kernel_rfl⟩
instance : Fu Tryz.prog 86 Tryz.f86 := ⟨Tryz.func86, by kernel_rfl, by kernel_rfl⟩
instance : Fu Tryz.prog 87 Tryz.f87 := ⟨Tryz.func87, by kernel_rfl, by kernel_rfl⟩
instance : Fu Tryz.prog 88 Tryz.f88 := ⟨Tryz.func88, by kernel_rfl, by kernel_rfl⟩
instance : Fu Tryz.prog 89 Tryz.f89 := ⟨Tryz.func89, by kernel_rfl, by kernel_rfl⟩
instance : Fu Tryz.prog 90 Tryz.f90 := ⟨Tryz.func90, by kernel_rfl, by kernel_rfl⟩
instance : Fu Tryz.prog 91 Tryz.f91 := ⟨Tryz.func91, by kernel_rfl, by kernel_rfl⟩
instance : Fu Tryz.prog 92 Tryz.f92 := ⟨Tryz.func92, by kernel_rfl, by kernel_rfl⟩
instance : Fu Tryz.prog 93 Tryz.f93 := ⟨Tryz.func93, by kernel_rfl, by kernel_rfl⟩
instance : Fu Tryz.prog 94 Tryz.f94 := ⟨Tryz.func94, by kernel_rfl, by kernel_rfl⟩
instance : Fu Tryz.prog 95 Tryz.f95 := ⟨Tryz.func95, by kernel_rfl, by kernel_rfl⟩
instance : Fu Tryz.prog 96 Tryz.f96 := ⟨Tryz.func96, by kernel_rfl, by kernel_rfl⟩
instance : Fu Tryz.prog 97 Tryz.f97 := ⟨Tryz.func97, by kernel_rfl, by kernel_rfl⟩
instance : Fu Tryz.prog 98 Tryz.f98 := ⟨Tryz.func98, by kernel_rfl, by kernel_rfl⟩
instance : Fu Tryz.prog 99 Tryz.f99 := ⟨Tryz.func99, by kernel_rfl, by kernel_rfl⟩
instance : Fu Tryz.prog 100 Tryz.f100 := ⟨Tryz.func100, by kernel_rfl, by kernel_rfl⟩
instance : Fu Tryz.prog 101 Tryz.f101 := ⟨Tryz.func101, by kernel_rfl, by kernel_rfl⟩
instance : Fu Tryz.prog 102 Tryz.f102 := ⟨Tryz.func102, by kernel_rfl, by kernel_rfl⟩
instance : Fu Tryz.prog 103 Tryz.f103 := ⟨Tryz.func103, by kernel_rfl, by kernel_rfl⟩
instance : Fu Tryz.prog 104 Tryz.f104 := ⟨Tryz.func104, by kernel_rfl, by kernel_rfl⟩
instance : Fu Tryz.prog 105 Tryz.f105 := ⟨Tryz.func105, by kernel_rfl, by kernel_rfl⟩
instance : Fu Tryz.prog 106 Tryz.f106 := ⟨Tryz.func106, by kernel_rfl, by kernel_rfl⟩
instance : Fu Tryz.prog 107 Tryz.f107 := ⟨Tryz.func107, by kernel_rfl, by kernel_rfl⟩
instance : Fu Tryz.prog 108 Tryz.f108 := ⟨Tryz.func108, by kernel_rfl, by kernel_rfl⟩
instance : Fu Tryz.prog 109 Tryz.f109 := ⟨Tryz.func109, by kernel_rfl, by kernel_rfl⟩
instance : Fu Tryz.prog 110 Tryz.f110 := ⟨Tryz.func110, by kernel_rfl, by kernel_rfl⟩
instance : Fu Tryz.prog 112 Tryz.f112 := ⟨Tryz.func112, by kernel_rfl, by kernel_rfl⟩
instance : Fu Tryz.prog 113 Tryz.f113 := ⟨Tryz.func113, by kernel_rfl, by kernel_rfl⟩
instance : Fu Tryz.prog 114 Tryz.f114 := ⟨Tryz.func114, by kernel_rfl, by kernel_rfl⟩
instance : Fu Tryz.prog 115 Tryz.f115 := ⟨Tryz.func115, by kernel_rfl, by kernel_rfl⟩
instance : Fu Tryz.prog 116 Tryz.f116 := ⟨Tryz.func116, by kernel_rfl, by kernel_rfl⟩
instance : Fu Tryz.prog 117 Tryz.f117 := ⟨Tryz.func117, by kernel_rfl, by kernel_rfl⟩
instance : Fu Tryz.prog 118 Tryz.f118 := ⟨Tryz.func118, by kernel_rfl, by kernel_rfl⟩
instance : Fu Tryz.prog 119 Tryz.f119 := ⟨Tryz.func119, by kernel_rfl, by kernel_rfl⟩
instance : Fu Tryz.prog 120 Tryz.f120 := ⟨Tryz.func120, by kernel_rfl, by kernel_rfl⟩
instance : Fu Tryz.prog 121 Tryz.f121 := ⟨Tryz.func121, by kernel_rfl, by kernel_rfl⟩
instance : Fu Tryz.prog 122 Tryz.f122 := ⟨Tryz.func122, by kernel_rfl, by kernel_rfl⟩
instance : Fu Tryz.prog 123 Tryz.f123 := ⟨Tryz.func123, by kernel_rfl, by kernel_rfl⟩
theorem Tryz.mixed : Tryz.prog.follows .mixedOrders = true := by kernel_rfl
end Go.Proofs
/- Contracts: searches in slices of integers. -/
namespace Go.Proofs.YtfhgnlkdcdlblaaGreatDoor
open Go.Lg

/-- has (law 30) -/
theorem has30_ok {L : List Nat} {w : World} {v : Value} {l : List Int} (h : Ints L w.heap v l) (x : Int) :
    Ret Tryz.prog 12 [v, .int .i64 x] w fun r w' => r = .bool (decide (x ∈ l)) ∧ w' = w := by
  have hle := h.le
  refine Ret.of_W Tryz.func12 rfl Tryz.ntmps12 Tryz.results12 (by simp) ?_
  refine W_seq <| W_region (by rfl) ?_
  refine Lg.x r_assign <| xe ?_
  refine W_seq <| W_seq <| W_region (by rfl) ?_
  refine Lg.x r_assign <| xe ?_
  refine W_block <| W_loop (α := Nat) [(4, 17)] (fun k => [(5, .int .i64 k)]) (fun k w' => w' = w ∧ k ≤ l.length ∧ (x ∈ l ↔ x ∈ l.drop k)) (fun k => l.length - k) (by rfl) 0 ⟨rfl, trivial⟩ ⟨rfl, Nat.zero_le _, by simp⟩ ?_
  rintro k g w' ⟨rfl, hk, hm⟩
  refine W_seq <| W_seq <| W_region (by rfl) ?_
  refine Lg.x r_move <| Lg.x r_move <| Lg.x (r_lenA h rfl) <| Lg.x (r_lss rfl rfl) <| xe ?_
  refine W_ifn rfl (fun h9 => ?_) (fun h9 => ?_)
  · refine W_exit ?_
    refine W_seq <| W_region (by rfl) ?_
    refine Lg.x r_assign <| xe ?_
    refine W_ret ⟨[.bool false], ⟨rfl, trivial⟩, ?_, rfl⟩
    rw [List.drop_of_length_le (by omega)] at hm
    simp [tup, hm]
  have hlt : k < l.length := by omega
  have hd := drop_cons hlt
  refine W_skip ?_
  refine W_seq <| W_block <| W_seq <| W_region (by rfl) ?_
  refine Lg.x r_move <| Lg.x r_move <| xii h rfl rfl hlt fun a14 h14 => Lg.x (r_loadA h14 rfl) <| Lg.x r_move <| Lg.x (r_eql rfl rfl) <| xe ?_
  refine W_if rfl (fun h17 => ?_) (fun h17 => ?_)
  · refine W_seq <| W_region (by rfl) ?_
    refine Lg.x r_assign <| xe ?_
    refine W_ret ⟨[.bool true], ⟨rfl, trivial⟩, ?_, rfl⟩
    have : x ∈ l := by rw [hm, hd, h17]; exact List.mem_cons_self
    simp [tup, this]
  refine W_skip ?_
  refine W_region (by rfl) ?_
  refine Lg.x r_move <| Lg.x (r_add rfl rfl ⟨by omega, by omega⟩) <| Lg.x r_assign <| xe ?_
  refine ⟨k + 1, by omega, ⟨rfl, trivial⟩, rfl, by omega, ?_⟩
  rw [hm, hd, List.mem_cons]
  exact ⟨fun h => h.resolve_left (fun e => h17 e.symm), .inr⟩

/-- next (law 30): the first edge of a state by an event. -/
def nxt (es : List Ed) (s e : Int) : Int := match es with
  | [] => -1
  | x :: es => if x.1 = s ∧ x.2.1 = e then x.2.2 else nxt es s e
end Go.Proofs.YtfhgnlkdcdlblaaGreatDoor
/- The plain functions that the contracts speak of. -/
namespace Go.Proofs.YtfhgnlkdcdlblaaGreatDoor
open Go.Lg
/-- Strictly increasing. -/
abbrev Inc (l : List Int) : Prop := l.Pairwise (· < ·)
def leO : Option Int → Int → Bool
  | none, _ => false
  | some b, a => decide (a ≤ b)
/-- checkSet -/
def ckS (n : Int) : Option Int → List Int → Int
  | _, [] => 0
  | pr, a :: l => if a < 0 ∨ n ≤ a then 2 else if leO pr a = true then 5 else ckS n (some a) l
def pv {α : Type} (l : List α) (k : Nat) : Option α := if k = 0 then none else l[k - 1]?
theorem pv_succ {α : Type} {l : List α} {k : Nat} (h : k < l.length) : pv l (k + 1) = some l[k] := by simp [pv, h]
def edO : Option Ed → Ed → Bool
  | none, _ => false
  | some y, a => decide (a.1 < y.1 ∨ (a.1 = y.1 ∧ a.2.1 ≤ y.2.1))
/-- checkEdges -/
def ckE (al : List Int) (st : Int) : Option Ed → List Ed → Int
  | _, [] => 0
  | pr, a :: l => if a.1 < 0 ∨ st ≤ a.1 ∨ a.2.2 < 0 ∨ st ≤ a.2.2 then 2 else if a.2.1 ∉ al then 9 else if edO pr a = true then 5 else ckE al st (some a) l
/-- Check -/
def ckA (a : Aut) : Int :=
  if ckS 32 none a.al ≠ 0 then ckS 32 none a.al else if a.st < 0 then 2 else if 4096 < a.st then 3 else if ckS a.st none a.mr ≠ 0 then ckS a.st none a.mr else ckE a.al a.st none a.ed
/-! the merge of two sets -/
def inA : List Int → List Int → Bool
  | [], _ => false
  | _ :: _, [] => true
  | a :: _, b :: _ => decide (a ≤ b)
def tl (c : Bool) (l : List Int) : List Int := bif c then l.tail else l
def hx (a b : List Int) : Int := bif inA b a then b.headD 0 else a.headD 0
def mrgF (keep : Bool → Bool → Bool) : Nat → List Int → List Int → List Int
  | 0, _, _ => []
  | n + 1, a, b => if a = [] ∧ b = [] then [] else (bif keep (inA a b) (inA b a) then [hx a b] else []) ++ mrgF keep n (tl (inA a b) a) (tl (inA b a) b)
def mrg (keep : Bool → Bool → Bool) (a b : List Int) : List Int := mrgF keep (a.length + b.length) a b
theorem inA_tl {a b : List Int} (h : ¬ (a = [] ∧ b = [])) : (tl (inA a b) a).length + (tl (inA b a) b).length < a.length + b.length := by
  cases a with
  | nil => cases b with
    | nil => simp at h
    | cons y b => simp [inA, tl]
  | cons x a => cases b with
    | nil => simp [inA, tl]
    | cons y b =>
      simp only [inA, tl]
      by_cases h1 : x ≤ y <;> by_cases h2 : y ≤ x <;> simp [h1, h2] <;> omega
theorem mrgF_fuel (keep : Bool → Bool → Bool) : ∀ (n : Nat) (a b : List Int), a.length + b.length ≤ n → mrgF keep n a b = mrg keep a b := by
  have key : ∀ (n m : Nat) (a b : List Int), a.length + b.length ≤ n → a.length + b.length ≤ m → mrgF keep n a b = mrgF keep m a b := by
    intro n
    induction n with
    | zero =>
      intro m a b h1 _
      have ha : a = [] := List.eq_nil_of_length_eq_zero (by omega)
      have hb : b = [] := List.eq_nil_of_length_eq_zero (by omega)
      subst ha hb
      cases m <;> simp [mrgF]
    | succ n ih =>
      intro m a b h1 h2
      by_cases h : a = [] ∧ b = []
      · obtain ⟨rfl, rfl⟩ := h
        cases m <;> simp [mrgF]
      · have hlt := inA_tl h
        cases m with
        | zero => omega
        | succ m => rw [mrgF, mrgF, if_neg h, if_neg h, ih m _ _ (by omega) (by omega)]
  intro n a b h
  exact key n _ a b h (Nat.le_refl _)
theorem mrg_nil (keep : Bool → Bool → Bool) : mrg keep [] [] = [] := rfl
theorem mrg_step (keep : Bool → Bool → Bool) {a b : List Int} (h : ¬ (a = [] ∧ b = [])) :
    mrg keep a b = (bif keep (inA a b) (inA b a) then [hx a b] else []) ++ mrg keep (tl (inA a b) a) (tl (inA b a) b) := by
  have hlt := inA_tl h
  rw [← mrgF_fuel keep (a.length + b.length - 1 + 1) a b (by omega), mrgF, if_neg h, mrgF_fuel keep _ _ _ (by omega)]
theorem mrg_length (keep : Bool → Bool → Bool) : ∀ (n : Nat) (a b : List Int), a.length + b.length ≤ n → (mrg keep a b).length ≤ a.length + b.length := by
  intro n
  induction n with
  | zero =>
    intro a b h
    have ha : a = [] := List.eq_nil_of_length_eq_zero (by omega)
    have hb : b = [] := List.eq_nil_of_length_eq_zero (by omega)
    subst ha hb; simp [mrg_nil]
  | succ n ih =>
    intro a b hn
    by_cases h : a = [] ∧ b = []
    · obtain ⟨rfl, rfl⟩ := h; simp [mrg_nil]
    · have hlt := inA_tl h
      rw [mrg_step keep h]
      have := ih (tl (inA a b) a) (tl (inA b a) b) (by omega)
      cases keep (inA a b) (inA b a) <;> simp <;> omega
theorem mrg_len (keep : Bool → Bool → Bool) (a b : List Int) : (mrg keep a b).length ≤ a.length + b.length := mrg_length keep _ a b (Nat.le_refl _)
/-! edges of a state -/
theorem cut_filter {α : Type} (q : α → Bool) (es : List α) (lo hi : Nat) (h1 : lo ≤ hi) (h2 : hi ≤ es.length) (ha : ∀ m (hm : m < es.length), m < lo → q es[m] = false) (hb : ∀ m (hm : m < es.length), lo ≤ m → m < hi → q es[m] = true)
    (hc : ∀ m (hm : m < es.length), hi ≤ m → q es[m] = false) : (es.drop lo).take (hi - lo) = es.filter q := by
  have e1 : es = es.take lo ++ ((es.drop lo).take (hi - lo) ++ es.drop hi) := by
    conv => lhs; rw [← List.take_append_drop lo es]
    congr 1
    conv => lhs; rw [← List.take_append_drop (hi - lo) (es.drop lo)]
    rw [List.drop_drop]
    congr 2; omega
  have f1 : (es.take lo).filter q = [] := by
    rw [List.filter_eq_nil_iff]
    intro a ha'
    obtain ⟨m, hm, rfl⟩ := List.getElem_of_mem ha'
    rw [List.length_take] at hm
    rw [List.getElem_take, ha m (by omega) (by omega)]; simp
  have f3 : (es.drop hi).filter q = [] := by
    rw [List.filter_eq_nil_iff]
    intro a ha'
    obtain ⟨m, hm, rfl⟩ := List.getElem_of_mem ha'
    rw [List.length_drop] at hm
    rw [List.getElem_drop, hc (hi + m) (by omega) (by omega)]; simp
  have f2 : ((es.drop lo).take (hi - lo)).filter q = (es.drop lo).take (hi - lo) := by
    rw [List.filter_eq_self]
    intro a ha'
    obtain ⟨m, hm, rfl⟩ := List.getElem_of_mem ha'
    rw [List.length_take, List.length_drop] at hm
    rw [List.getElem_take, List.getElem_drop]
    exact hb (lo + m) (by omega) (by omega) (by omega)
  conv => rhs; rw [e1]
  rw [List.filter_append, List.filter_append, f1, f2, f3]; simp
def outE (es : List Ed) (s : Int) : List Ed := es.filter fun e => decide (e.1 = s)
end Go.Proofs.YtfhgnlkdcdlblaaGreatDoor
/- Contracts: slices.Index, Contains, Equal, BinarySearch; alphabet.Contains. -/
namespace Go.Proofs.YtfhgnlkdcdlblaaGreatDoor
open Go.Lg

theorem index_ok {L : List Nat} {w : World} {v : Value} {l : List Int} (h : Ints L w.heap v l) (n : Int) :
    Ret Tryz.prog 93 [v, .int .i64 n] w fun r w' => w' = w ∧ ∃ i : Int, r = .int .i64 i ∧ (0 ≤ i ↔ n ∈ l) := by
  have hle := h.le
  refine Ret.of_W Tryz.func93 rfl Tryz.ntmps93 Tryz.results93 (by simp) ?_
  refine W_seq <| W_region (by rfl) ?_
  refine x r_assign <| xe ?_
  refine W_seq <| W_seq <| W_region (by rfl) ?_
  refine x r_move <| x (r_lenA h rfl) <| x r_move <| xe ?_
  refine W_block <| W_loop (α := Nat) [(4, 5), (8, 18)] (fun k => [(8, .int .i64 k)]) (fun k w' => w' = w ∧ k ≤ l.length ∧ (n ∈ l ↔ n ∈ l.drop k)) (fun k => l.length - k) (by rfl) 0 ⟨rfl, trivial⟩ ⟨rfl, Nat.zero_le _, by simp⟩ ?_
  rintro k g w1 ⟨rfl, hk, hm⟩
  refine W_seq <| W_region (by rfl) ?_
  refine x (r_lss rfl rfl) <| xe ?_
  refine W_seq <| W_ifn rfl (fun h9 => ?_) (fun h9 => ?_)
  · refine W_exit ?_
    refine W_seq <| W_region (by rfl) ?_
    refine x r_assign <| xe ?_
    refine W_ret ⟨[.int .i64 (-1)], ⟨rfl, trivial⟩, rfl, -1, rfl, ?_⟩
    rw [List.drop_of_length_le (by omega)] at hm
    simp [hm]
  have hlt : k < l.length := by omega
  have hd := drop_cons hlt
  refine W_skip ?_
  refine W_seq <| W_block <| W_seq <| W_region (by rfl) ?_
  refine x r_move <| x r_assign <| xe ?_
  refine W_seq <| W_region (by rfl) ?_
  refine x r_move <| x r_move <| x r_move <| xii h rfl rfl hlt fun a14 h14 => x (r_loadA h14 rfl) <| x (r_eql rfl rfl) <| xe ?_
  refine W_if rfl (fun h16 => ?_) (fun h16 => ?_)
  · refine W_seq <| W_region (by rfl) ?_
    refine x r_move <| x r_assign <| xe ?_
    refine W_ret ⟨[.int .i64 k], ⟨rfl, trivial⟩, rfl, k, rfl, ?_⟩
    have : n ∈ l := by rw [hm, hd, h16]; exact List.mem_cons_self
    simp [this]
  refine W_skip ?_
  refine W_region (by rfl) ?_
  refine x (r_add rfl rfl ⟨by omega, by omega⟩) <| x r_move <| xe ?_
  refine ⟨k + 1, by omega, ⟨rfl, trivial⟩, rfl, by omega, ?_⟩
  rw [hm, hd, List.mem_cons]
  exact ⟨fun h => h.resolve_left h16, .inr⟩

theorem contains_ok {L : List Nat} {w : World} {v : Value} {l : List Int} (h : Ints L w.heap v l) (n : Int) :
    Ret Tryz.prog 69 [v, .int .i64 n] w fun r w' => r = .bool (decide (n ∈ l)) ∧ w' = w := by
  refine Ret.of_W Tryz.func69 rfl Tryz.ntmps69 Tryz.results69 (by simp) ?_
  refine W_seq <| W_region (by rfl) ?_
  refine x r_assign <| xe ?_
  refine W_seq <| W_region (by rfl) ?_
  refine x r_move <| x r_move <| xl rfl <| xf <| (index_ok h n).mono ?_
  rintro r1 w1 ⟨rfl, i, rfl, hi⟩
  refine x (r_geq rfl rfl) <| x r_assign <| xe ?_
  refine W_ret ⟨[.bool (decide (0 ≤ i))], ⟨rfl, trivial⟩, ?_, rfl⟩
  simp [tup, hi]

theorem equalI_ok {L L' : List Nat} {w : World} {v v' : Value} {l l' : List Int} (h : Ints L w.heap v l) (h' : Ints L' w.heap v' l') :
    Ret Tryz.prog 36 [v, v'] w fun r w' => r = .bool (decide (l = l')) ∧ Step [] w w' := by
  have hle := h.le
  refine Ret.of_W Tryz.func36 rfl Tryz.ntmps36 Tryz.results36 (by simp) ?_
  refine W_seq <| W_region (by rfl) ?_
  refine x r_assign <| xe ?_
  refine W_seq <| W_seq <| W_region (by rfl) ?_
  refine x r_move <| x (r_lenA h rfl) <| x r_move <| x (r_lenA h' rfl) <| x (r_neq rfl rfl) <| xe ?_
  refine W_if rfl (fun h10 => ?_) (fun h10 => ?_)
  · refine W_seq <| W_region (by rfl) ?_
    refine x r_assign <| xe ?_
    refine W_ret ⟨[.bool false], ⟨rfl, trivial⟩, ?_, Step.refl _ _⟩
    have : l ≠ l' := fun e => h10 (by rw [e])
    simp [tup, this]
  have hll : l.length = l'.length := by omega
  refine W_skip ?_
  refine W_seq <| W_seq <| W_region (by rfl) ?_
  refine x r_move <| x (r_lenA h rfl) <| x r_move <| xe ?_
  refine W_block <| W_loop (α := Nat) [(4, 5), (13, 25)] (fun k => [(13, .int .i64 k)]) (fun k w' => Step [] w w' ∧ k ≤ l.length ∧ (l = l' ↔ l.drop k = l'.drop k)) (fun k => l.length - k) (by rfl) 0 ⟨rfl, trivial⟩ ⟨Step.refl _ _, Nat.zero_le _, by simp⟩ ?_
  rintro k g w1 ⟨hs, hk, hm⟩
  replace h := h.ext hs
  replace h' := h'.ext hs
  refine W_seq <| W_region (by rfl) ?_
  refine x (r_lss rfl rfl) <| xe ?_
  refine W_seq <| W_ifn rfl (fun h14 => ?_) (fun h14 => ?_)
  · refine W_exit ?_
    refine W_seq <| W_region (by rfl) ?_
    refine x r_assign <| xe ?_
    refine W_ret ⟨[.bool true], ⟨rfl, trivial⟩, ?_, hs⟩
    rw [List.drop_of_length_le (by omega), List.drop_of_length_le (by omega)] at hm
    simp [tup, hm]
  have hlt : k < l.length := by omega
  have hlt' : k < l'.length := by omega
  refine W_skip ?_
  refine W_seq <| W_block <| W_seq <| W_region (by rfl) ?_
  refine x r_move <| x r_assign <| xe ?_
  refine W_seq <| W_draw (Step [] w1) [(0, true), (1, true), (2, true), (3, true), (4, true), (5, true), (6, true), (7, true), (8, true)] Tryz.mixed (by rfl) (by kernel_rfl) (Step.drew _ _) ?_
  refine p (fun _ => r_move) <| p (fun _ => r_move) <| pii rfl h rfl rfl hlt fun a18 h18 => pq (fun _ hc => r_loadA (h18.ext hc) rfl) <|
    p (fun _ => r_move) <| p (fun _ => r_move) <| pii rfl h' rfl rfl hlt' fun a22 h22 => pq (fun _ hc => r_loadA (h22.ext hc) rfl) <| p (fun _ => r_neq rfl rfl) <| pe ?_
  have hs' := hs.trans (Step.drew [] w1)
  refine W_if rfl (fun h24 => ?_) (fun h24 => ?_)
  · refine W_seq <| W_region (by rfl) ?_
    refine x r_assign <| xe ?_
    refine W_ret ⟨[.bool false], ⟨rfl, trivial⟩, ?_, hs'⟩
    have : l ≠ l' := fun e => h24 (by simp [e])
    simp [tup, this]
  refine W_skip ?_
  refine W_region (by rfl) ?_
  refine x (r_add rfl rfl ⟨by omega, by omega⟩) <| x r_move <| xe ?_
  refine ⟨k + 1, by omega, ⟨rfl, trivial⟩, hs', by omega, ?_⟩
  have e : l[k] = l'[k] := Decidable.not_not.1 h24
  rw [hm, drop_cons hlt, drop_cons hlt', e]; exact ⟨fun h => (List.cons.inj h).2, fun h => by rw [h]⟩

theorem equalE_ok {L L' : List Nat} {w : World} {v v' : Value} {l l' : List Ed} (h : Eds L w.heap v l) (h' : Eds L' w.heap v' l') :
    Ret Tryz.prog 80 [v, v'] w fun r w' => r = .bool (decide (l = l')) ∧ Step [] w w' := by
  have hle := h.le
  refine Ret.of_W Tryz.func80 rfl Tryz.ntmps80 Tryz.results80 (by simp) ?_
  refine W_seq <| W_region (by rfl) ?_
  refine x r_assign <| xe ?_
  refine W_seq <| W_seq <| W_region (by rfl) ?_
  refine x r_move <| x (r_lenA h rfl) <| x r_move <| x (r_lenA h' rfl) <| x (r_neq rfl rfl) <| xe ?_
  refine W_if rfl (fun h10 => ?_) (fun h10 => ?_)
  · refine W_seq <| W_region (by rfl) ?_
    refine x r_assign <| xe ?_
    refine W_ret ⟨[.bool false], ⟨rfl, trivial⟩, ?_, Step.refl _ _⟩
    have : l ≠ l' := fun e => h10 (by rw [e])
    simp [tup, this]
  have hll : l.length = l'.length := by omega
  refine W_skip ?_
  refine W_seq <| W_seq <| W_region (by rfl) ?_
  refine x r_move <| x (r_lenA h rfl) <| x r_move <| xe ?_
  refine W_block <| W_loop (α := Nat) [(4, 5), (13, 25)] (fun k => [(13, .int .i64 k)]) (fun k w' => Step [] w w' ∧ k ≤ l.length ∧ (l = l' ↔ l.drop k = l'.drop k)) (fun k => l.length - k) (by rfl) 0 ⟨rfl, trivial⟩ ⟨Step.refl _ _, Nat.zero_le _, by simp⟩ ?_
  rintro k g w1 ⟨hs, hk, hm⟩
  replace h := h.ext hs
  replace h' := h'.ext hs
  refine W_seq <| W_region (by rfl) ?_
  refine x (r_lss rfl rfl) <| xe ?_
  refine W_seq <| W_ifn rfl (fun h14 => ?_) (fun h14 => ?_)
  · refine W_exit ?_
    refine W_seq <| W_region (by rfl) ?_
    refine x r_assign <| xe ?_
    refine W_ret ⟨[.bool true], ⟨rfl, trivial⟩, ?_, hs⟩
    rw [List.drop_of_length_le (by omega), List.drop_of_length_le (by omega)] at hm
    simp [tup, hm]
  have hlt : k < l.length := by omega
  have hlt' : k < l'.length := by omega
  refine W_skip ?_
  refine W_seq <| W_block <| W_seq <| W_region (by rfl) ?_
  refine x r_move <| x r_assign <| xe ?_
  refine W_seq <| W_draw (Step [] w1) [(0, true), (1, true), (2, true), (3, true), (4, true), (5, true), (6, true), (7, true), (8, true)] Tryz.mixed (by rfl) (by kernel_rfl) (Step.drew _ _) ?_
  refine p (fun _ => r_move) <| p (fun _ => r_move) <| pie rfl h rfl rfl hlt fun a18 h18 => pq (fun _ hc => r_loadsA (h18.ext hc) rfl rfl) <|
    p (fun _ => r_move) <| p (fun _ => r_move) <| pie rfl h' rfl rfl hlt' fun a22 h22 => pq (fun _ hc => r_loadsA (h22.ext hc) rfl rfl) <| p (fun _ => r_neq_struct rfl rfl) <| pe ?_
  have hs' := hs.trans (Step.drew [] w1)
  refine W_if rfl (fun h24 => ?_) (fun h24 => ?_)
  · refine W_seq <| W_region (by rfl) ?_
    refine x r_assign <| xe ?_
    refine W_ret ⟨[.bool false], ⟨rfl, trivial⟩, ?_, hs'⟩
    have : l ≠ l' := fun e => h24 (by simp [e])
    simp [tup, this]
  refine W_skip ?_
  refine W_region (by rfl) ?_
  refine x (r_add rfl rfl ⟨by omega, by omega⟩) <| x r_move <| xe ?_
  refine ⟨k + 1, by omega, ⟨rfl, trivial⟩, hs', by omega, ?_⟩
  have e : l[k] = l'[k] := Decidable.not_not.1 h24
  rw [hm, drop_cons hlt, drop_cons hlt', e]; exact ⟨fun h => (List.cons.inj h).2, fun h => by rw [h]⟩

theorem isNaN_ok {w : World} (n : Int) : Ret Tryz.prog 106 [.int .i64 n] w fun r w' => r = .bool false ∧ w' = w := by
  refine Ret.of_W Tryz.func106 rfl Tryz.ntmps106 Tryz.results106 (by simp) ?_
  refine W_seq <| W_region (by rfl) ?_
  refine x r_assign <| xe ?_
  refine W_seq <| W_region (by rfl) ?_
  refine x r_move <| x r_move <| x (r_neq rfl rfl) <| x r_assign <| xe ?_
  exact W_ret ⟨[.bool (decide (¬ n = n))], ⟨rfl, trivial⟩, by simp [tup], rfl⟩
theorem isNaN2_ok {w : World} (n : Int) : Ret Tryz.prog 110 [.int .i64 n] w fun r w' => r = .bool false ∧ w' = w := by
  refine Ret.of_W Tryz.func110 rfl Tryz.ntmps110 Tryz.results110 (by simp) ?_
  refine W_seq <| W_region (by rfl) ?_
  refine x r_assign <| xe ?_
  refine W_seq <| W_region (by rfl) ?_
  refine x r_move <| x r_move <| x (r_neq rfl rfl) <| x r_assign <| xe ?_
  exact W_ret ⟨[.bool (decide (¬ n = n))], ⟨rfl, trivial⟩, by simp [tup], rfl⟩
theorem less_ok {w : World} (m n : Int) : Ret Tryz.prog 105 [.int .i64 m, .int .i64 n] w fun r w' => r = .bool (decide (m < n)) ∧ w' = w := by
  refine Ret.of_W Tryz.func105 rfl Tryz.ntmps105 Tryz.results105 (by simp) ?_
  refine W_seq <| W_region (by rfl) ?_
  refine x r_assign <| xe ?_
  refine W_seq <| W_region (by rfl) ?_
  refine x r_move <| xl rfl <| xf <| (isNaN2_ok m).mono ?_
  rintro r1 w1 ⟨rfl, rfl⟩
  refine x r_move <| xs rfl <| xs rfl <| xs rfl <| x (r_pick rfl) <| x r_move <| x r_move <| x r_move <| x (r_lss rfl rfl) <| x (r_pick rfl) <| x r_assign <| xe ?_
  exact W_ret ⟨[.bool (decide (m < n))], ⟨rfl, trivial⟩, rfl, rfl⟩

theorem Inc.get {l : List Int} (h : Inc l) {i j : Nat} (hj : j < l.length) (hij : i < j) : l[i] < l[j] := List.pairwise_iff_getElem.1 h i j (by omega) hj hij
theorem bsearch_ok {L : List Nat} {w : World} {v : Value} {l : List Int} (h : Ints L w.heap v l) (hi : Inc l) (n : Int) :
    Ret Tryz.prog 91 [v, .int .i64 n] w fun r w' => w' = w ∧ ∃ i : Int, r = .tuple #[.int .i64 i, .bool (decide (n ∈ l))] := by
  have hle := h.le
  refine Ret.of_W Tryz.func91 rfl Tryz.ntmps91 Tryz.results91 (by simp) ?_
  refine W_seq <| W_region (by rfl) ?_
  refine x r_assign <| x r_assign <| xe ?_
  refine W_seq <| W_region (by rfl) ?_
  refine x r_move <| x (r_lenA h rfl) <| x r_assign <| xe ?_
  refine W_seq <| W_region (by rfl) ?_
  refine x r_move <| x r_assign <| x r_assign <| xe ?_
  refine W_seq <| W_block <| W_loop (α := Nat × Nat) [(7, 9), (13, 30)] (fun z => [(7, .int .i64 z.1), (8, .int .i64 z.2)])
    (fun z w' => w' = w ∧ z.1 ≤ z.2 ∧ z.2 ≤ l.length ∧ (∀ m (hm : m < l.length), m < z.1 → l[m] < n) ∧ (∀ m (hm : m < l.length), z.2 ≤ m → n ≤ l[m])) (fun z => z.2 - z.1) (by rfl) (0, l.length) ⟨rfl, rfl, trivial⟩
    ⟨rfl, Nat.zero_le _, Nat.le_refl _, fun m _ h0 => absurd h0 (Nat.not_lt_zero m), fun m h1 h0 => absurd h1 (by simp only [] at h0; omega)⟩ ?_
  rintro ⟨i, j⟩ g w1 ⟨rfl, hij, hj, hlo, hhi⟩
  simp only [] at hij hj hlo hhi
  refine W_seq <| W_seq <| W_region (by rfl) ?_
  refine x r_move <| x r_move <| x (r_lss rfl rfl) <| xe ?_
  refine W_ifn rfl (fun h15 => ?_) (fun h15 => ?_)
  · have e : i = j := by omega
    subst e
    refine W_exit ?_
    refine W_cut (α := Bool) [(4, 5), (31, 53)] (fun z => [(4, .int .i64 i), (5, .bool z)]) (fun z w' => w' = w1 ∧ z = decide (n ∈ l)) (by rfl) ?_ ?_
    · refine W_region (by rfl) ?_
      refine x r_move <| x r_move <| x r_move <| xb (r_lss rfl rfl) (fun h34 => ?_) (fun h34 => ?_)
      · have hlt : i < l.length := by omega
        refine x r_move <| x r_move <| x r_move <| xii h rfl rfl hlt fun a38 h38 => x (r_loadA h38 rfl) <| x r_move <| xb (r_eql rfl rfl) (fun h41 => ?_) (fun h41 => ?_)
        · refine x r_move <| xs rfl <| xs rfl <| xs rfl <| xs rfl <| xs rfl <| xs rfl <| xs rfl <| xs rfl <| xs rfl <| x (r_pick rfl) <| x (r_pick rfl) <| x r_assign <| x r_assign <| xe ?_
          have : n ∈ l := by rw [← h41]; exact List.getElem_mem hlt
          exact ⟨true, ⟨rfl, rfl, trivial⟩, rfl, by simp [this]⟩
        refine x r_move <| x r_move <| x r_move <| xii h rfl rfl hlt fun a45 h45 => x (r_loadA h45 rfl) <| xl rfl <| xf <| (isNaN_ok _).mono ?_
        rintro r3 w3 ⟨rfl, rfl⟩
        refine x r_move <| xs rfl <| xs rfl <| x (r_pick rfl) <| x (r_pick rfl) <| x (r_pick rfl) <| x r_assign <| x r_assign <| xe ?_
        refine ⟨false, ⟨rfl, rfl, trivial⟩, rfl, ?_⟩
        have : n ∉ l := by
          intro hm
          obtain ⟨m, hm1, hm2⟩ := List.getElem_of_mem hm
          by_cases hmi : m < i
          · have := hlo m hm1 hmi; omega
          · by_cases hme : m = i
            · subst hme; exact h41 hm2
            · have := Inc.get hi hm1 (show i < m by omega)
              have := hhi i hlt (Nat.le_refl _)
              omega
        simp [this]
      refine x r_move <| xs rfl <| xs rfl <| xs rfl <| xs rfl <| xs rfl <| xs rfl <| xs rfl <| xs rfl <| xs rfl <| xs rfl <| xs rfl <| xs rfl <| xs rfl <| xs rfl <| xs rfl <| xs rfl <| xs rfl <|
        x (r_pick rfl) <| x r_assign <| x r_assign <| xe ?_
      refine ⟨false, ⟨rfl, rfl, trivial⟩, rfl, ?_⟩
      have : n ∉ l := by
        intro hm
        obtain ⟨m, hm1, hm2⟩ := List.getElem_of_mem hm
        have := hlo m hm1 (by omega); omega
      simp [this]
    rintro z g w7 ⟨rfl, rfl⟩
    exact W_ret ⟨[.int .i64 i, .bool (decide (n ∈ l))], ⟨rfl, rfl, trivial⟩, rfl, i, rfl⟩
  have hij' : i < j := by omega
  refine W_skip ?_
  refine W_block <| W_seq <| W_region (by rfl) ?_
  refine x r_move <| x r_move <| x (r_add rfl rfl ⟨by omega, by omega⟩) <| x (r_conv rfl (by exact ⟨by omega, by omega⟩)) <| x (r_shr (n := 1) rfl rfl (by decide)) <| x (r_conv rfl (by exact ⟨by omega, by omega⟩)) <| x r_assign <| xe ?_
  have hh : (((i : Int) + (j : Int)) / 2 ^ 1) = (((i + j) / 2 : Nat) : Int) := by omega
  rw [hh]
  generalize hq : (i + j) / 2 = q
  have hqi : i ≤ q := by omega
  have hqj : q < j := by omega
  have hql : q < l.length := by omega
  refine W_seq <| W_region (by rfl) ?_
  refine x r_move <| x r_move <| xii h rfl rfl hql fun a24 h24 => x (r_loadA h24 rfl) <| x r_move <| xl rfl <| xf <| (less_ok _ _).mono ?_
  rintro r8 w8 ⟨rfl, rfl⟩
  refine xe ?_
  refine W_ifn rfl (fun h27 => ?_) (fun h27 => ?_)
  · refine W_region (by rfl) ?_
    refine x r_move <| x r_assign <| xe ?_
    refine ⟨(i, q), by simp only []; omega, ⟨rfl, rfl, trivial⟩, rfl, hqi, by omega, hlo, fun m hm hqm => ?_⟩
    by_cases e : q = m
    · subst e; omega
    · have := Inc.get hi hm (show q < m by simp only [] at hqm; omega); omega
  refine W_region (by rfl) ?_
  refine x r_move <| x (r_add rfl rfl ⟨by omega, by omega⟩) <| x r_assign <| xe ?_
  refine ⟨(q + 1, j), by simp only []; omega, ⟨rfl, rfl, trivial⟩, rfl, hqj, hj, fun m hm hmq => ?_, hhi⟩
  by_cases e : m = q
  · subst e; exact h27
  · have := Inc.get hi hql (show m < q by simp only [] at hmq; omega); omega

theorem alContains_ok {L : List Nat} {w : World} {v : Value} {l : List Int} (h : Ints L w.heap v l) (hi : Inc l) (n : Int) :
    Ret Tryz.prog 66 [v, .int .i64 n] w fun r w' => r = .bool (decide (n ∈ l)) ∧ w' = w := by
  refine Ret.of_W Tryz.func66 rfl Tryz.ntmps66 Tryz.results66 (by simp) ?_
  refine W_seq <| W_region (by rfl) ?_
  refine x r_assign <| xe ?_
  refine W_seq <| W_region (by rfl) ?_
  refine x r_move <| x r_move <| xl rfl <| xf <| (bsearch_ok h hi n).mono ?_
  rintro r1 w1 ⟨rfl, i, rfl⟩
  refine x r_move <| x (r_extract rfl rfl) <| x (r_extract rfl rfl) <| x r_assign <| x r_assign <| xe ?_
  refine W_seq <| W_region (by rfl) ?_
  refine x r_move <| x r_assign <| xe ?_
  exact W_ret ⟨[.bool (decide (n ∈ l))], ⟨rfl, trivial⟩, rfl, rfl⟩
end Go.Proofs.YtfhgnlkdcdlblaaGreatDoor
/- Contracts: automaton.checkSet, checkEdges, Check. -/
namespace Go.Proofs.YtfhgnlkdcdlblaaGreatDoor
open Go.Lg

theorem checkSet_ok {L : List Nat} {w : World} {v : Value} {l : List Int} (h : Ints L w.heap v l) (n : Int) :
    Ret Tryz.prog 44 [v, .int .i64 n] w fun r w' => r = .int .i64 (ckS n none l) ∧ w' = w := by
  have hle := h.le
  refine Ret.of_W Tryz.func44 rfl Tryz.ntmps44 Tryz.results44 (by simp) ?_
  refine W_seq <| W_region (by rfl) ?_
  refine x r_assign <| xe ?_
  refine W_seq <| W_seq <| W_region (by rfl) ?_
  refine x r_move <| x (r_lenA h rfl) <| x r_move <| xe ?_
  refine W_block <| W_loop (α := Nat) [(4, 6), (9, 34)] (fun k => [(9, .int .i64 k)]) (fun k w' => w' = w ∧ k ≤ l.length ∧ ckS n (pv l k) (l.drop k) = ckS n none l) (fun k => l.length - k) (by rfl) 0 ⟨rfl, trivial⟩ ⟨rfl, Nat.zero_le _, rfl⟩ ?_
  rintro k g w1 ⟨rfl, hk, hm⟩
  refine W_seq <| W_region (by rfl) ?_
  refine x (r_lss rfl rfl) <| xe ?_
  refine W_seq <| W_ifn rfl (fun h10 => ?_) (fun h10 => ?_)
  · refine W_exit ?_
    refine W_seq <| W_region (by rfl) ?_
    refine x r_assign <| xe ?_
    refine W_ret ⟨[.int .i64 0], ⟨rfl, trivial⟩, ?_, rfl⟩
    rw [← hm, List.drop_of_length_le (by omega)]; rfl
  have hlt : k < l.length := by omega
  have hd := drop_cons hlt
  rw [hd, ckS] at hm
  refine W_skip ?_
  refine W_seq <| W_block <| W_seq <| W_region (by rfl) ?_
  refine x r_move <| xii h rfl rfl hlt fun a12 h12 => x (r_loadA h12 rfl) <| x r_assign <| x r_assign <| xe ?_
  refine W_block <| W_cut (α := Bool) [(14, 21)] (fun z => [(14, .bool z)]) (fun z w' => w' = w1 ∧ z = decide (l[k] < 0 ∨ n ≤ l[k])) (by rfl) ?_ ?_
  · refine W_region (by rfl) ?_
    refine x r_move <| xb (r_lss rfl rfl) (fun h16 => ?_) (fun h16 => ?_)
    · refine x r_move <| xs rfl <| xs rfl <| xs rfl <| x (r_pick rfl) <| x r_assign <| xe ?_
      exact ⟨true, ⟨rfl, trivial⟩, rfl, by simp [h16]⟩
    refine x r_move <| x r_move <| x r_move <| x (r_geq rfl rfl) <| x (r_pick rfl) <| x r_assign <| xe ?_
    exact ⟨_, ⟨rfl, trivial⟩, rfl, by simp [h16]⟩
  rintro z g w2 ⟨rfl, rfl⟩
  refine W_if rfl (fun h14 => ?_) (fun h14 => ?_)
  · refine W_seq <| W_region (by rfl) ?_
    refine x r_assign <| xe ?_
    refine W_ret ⟨[.int .i64 2], ⟨rfl, trivial⟩, ?_, rfl⟩
    rw [← hm, if_pos h14]; rfl
  rw [if_neg h14] at hm
  refine W_cut (α := Bool) [(22, 33)] (fun z => [(22, .bool z)]) (fun z w' => w' = w2 ∧ z = leO (pv l k) l[k]) (by rfl) ?_ ?_
  · refine W_region (by rfl) ?_
    refine x r_move <| xb (r_gtr rfl rfl) (fun h24 => ?_) (fun h24 => ?_)
    · have hk1 : ((k : Int) - 1) = ((k - 1 : Nat) : Int) := by omega
      refine x r_move <| x r_move <| x r_move <| x r_move <| x (r_sub rfl rfl ⟨by omega, by omega⟩) <| xii (i := k - 1) h rfl (by show Value.int _ ((k : Int) - 1) = _; rw [hk1]) (by omega) fun a30 h30 => x (r_loadA h30 rfl) <| x (r_leq rfl rfl) <| x (r_pick rfl) <| x r_assign <| xe ?_
      refine ⟨_, ⟨rfl, trivial⟩, rfl, ?_⟩
      have : pv l k = some l[k - 1] := by
        have h0 : k ≠ 0 := by omega
        simp [pv, h0, show k - 1 < l.length by omega]
      rw [this]; rfl
    refine x r_move <| xs rfl <| xs rfl <| xs rfl <| xs rfl <| xs rfl <| xs rfl <| xs rfl <| x (r_pick rfl) <| x r_assign <| xe ?_
    have h0 : k = 0 := by omega
    exact ⟨false, ⟨rfl, trivial⟩, rfl, by simp [pv, h0, leO]⟩
  rintro z g w3 ⟨rfl, rfl⟩
  refine W_cond rfl (fun h22 => ?_) (fun h22 => ?_)
  · refine W_seq <| W_region (by rfl) ?_
    refine x r_assign <| xe ?_
    refine W_ret ⟨[.int .i64 5], ⟨rfl, trivial⟩, ?_, rfl⟩
    rw [← hm, if_pos h22]; rfl
  rw [if_neg (by simp [h22])] at hm
  refine W_skip ?_
  refine W_region (by rfl) ?_
  refine x (r_add rfl rfl ⟨by omega, by omega⟩) <| x r_move <| xe ?_
  exact ⟨k + 1, by omega, ⟨rfl, trivial⟩, rfl, by omega, by rw [pv_succ hlt]; exact hm⟩

theorem checkEdges_ok {L : List Nat} {w : World} {va vm ve : Value} {a : Aut} (h : AutA L w.heap va vm ve a) :
    Ret Tryz.prog 45 [.agg #[va, .int .i64 a.st, vm, ve]] w fun r w' => r = .int .i64 (ckE a.al a.st none a.ed) ∧ Step [] w w' := by
  obtain ⟨hal, _, hed⟩ := h
  have hle := hed.le
  refine Ret.of_W Tryz.func45 rfl Tryz.ntmps45 Tryz.results45 (by simp) ?_
  refine W_seq <| W_region (by rfl) ?_
  refine xl rfl <| o_box (us := [va, .int .i64 a.st, vm, ve]) rfl fun b1 w1 hs1 hb1 hB1 => x r_assign <| xe ?_
  replace hal := hal.ext hs1
  replace hed := hed.ext hs1
  refine W_seq <| W_seq <| W_region (by rfl) ?_
  refine x (r_fieldB rfl) <| x (r_loadB hB1 rfl rfl) <| x (r_lenA hed rfl) <| x r_move <| xe ?_
  refine W_block <| W_loop (α := Nat) [(2, 5), (9, 71)] (fun k => [(9, .int .i64 k)]) (fun k w' => Step [] w1 w' ∧ k ≤ a.ed.length ∧ ckE a.al a.st (pv a.ed k) (a.ed.drop k) = ckE a.al a.st none a.ed) (fun k => a.ed.length - k) (by rfl) 0 ⟨rfl, trivial⟩
    ⟨Step.refl _ _, Nat.zero_le _, rfl⟩ ?_
  rintro k g w2 ⟨hs2, hk, hm⟩
  replace hal := hal.ext hs2
  replace hed := hed.ext hs2
  replace hB1 := hB1.ext hs2
  refine W_seq <| W_region (by rfl) ?_
  refine x (r_lss rfl rfl) <| xe ?_
  refine W_seq <| W_ifn rfl (fun h10 => ?_) (fun h10 => ?_)
  · refine W_exit ?_
    refine W_seq <| W_region (by rfl) ?_
    refine x r_assign <| xe ?_
    refine W_ret ⟨[.int .i64 0], ⟨rfl, trivial⟩, ?_, hs1.trans hs2⟩
    rw [← hm, List.drop_of_length_le (by omega)]; rfl
  have hlt : k < a.ed.length := by omega
  have hd := drop_cons hlt
  rw [hd, ckE] at hm
  refine W_skip ?_
  refine W_seq <| W_block <| W_seq <| W_region (by rfl) ?_
  refine x r_move <| xie hed rfl rfl hlt fun a12 h12 => x (r_loadsA h12 rfl rfl) <| xl rfl <| o_alloc (us := [.int .i64 0, .int .i64 0, .int .i64 0]) rfl fun b4 w3 hs3 hb4 hB4 => x r_assign <|
    xl rfl <| o_stores hB4 rfl rfl rfl rfl ⟨rfl, rfl, rfl, trivial⟩ fun w4 hs4 hB4 => xe ?_
  have hs5 := hs3.then1 hs4 hb4
  replace hal := hal.ext hs5
  replace hed := hed.ext hs5
  replace hB1 := hB1.ext hs5
  have hsA := (hs1.trans hs2).trans hs5
  refine W_seq <| W_block <| W_cut (α := Bool) [(14, 36)] (fun z => [(14, .bool z)]) (fun z w' => w' = w4 ∧ z = decide (a.ed[k].1 < 0 ∨ a.st ≤ a.ed[k].1 ∨ a.ed[k].2.2 < 0 ∨ a.st ≤ a.ed[k].2.2)) (by rfl) ?_ ?_
  · refine W_region (by rfl) ?_
    refine x (r_fieldB rfl) <| x (r_loadB hB4 rfl rfl) <| xb (r_lss rfl rfl) (fun h17 => ?_) (fun h17 => ?_)
    · refine x r_move <| xs rfl <| xs rfl <| xs rfl <| xs rfl <| xs rfl <| x (r_pick rfl) <| x r_move <| xs rfl <| xs rfl <| xs rfl <| x (r_pick rfl) <| x r_move <| xs rfl <| xs rfl <| xs rfl <| xs rfl <| xs rfl <| x (r_pick rfl) <| x r_assign <| xe ?_
      exact ⟨true, ⟨rfl, trivial⟩, rfl, by simp [h17]⟩
    refine x r_move <| x (r_fieldB rfl) <| x (r_loadB hB4 rfl rfl) <| x (r_fieldB rfl) <| x (r_loadB hB1 rfl rfl) <| xb (r_geq rfl rfl) (fun h23 => ?_) (fun h23 => ?_)
    · refine x (r_pick rfl) <| x r_move <| xs rfl <| xs rfl <| xs rfl <| x (r_pick rfl) <| x r_move <| xs rfl <| xs rfl <| xs rfl <| xs rfl <| xs rfl <| x (r_pick rfl) <| x r_assign <| xe ?_
      exact ⟨true, ⟨rfl, trivial⟩, rfl, by simp [h23]⟩
    refine x (r_pick rfl) <| x r_move <| x (r_fieldB rfl) <| x (r_loadB hB4 rfl rfl) <| xb (r_lss rfl rfl) (fun h28 => ?_) (fun h28 => ?_)
    · refine x (r_pick rfl) <| x r_move <| xs rfl <| xs rfl <| xs rfl <| xs rfl <| xs rfl <| x (r_pick rfl) <| x r_assign <| xe ?_
      exact ⟨true, ⟨rfl, trivial⟩, rfl, by simp [h28]⟩
    refine x (r_pick rfl) <| x r_move <| x (r_fieldB rfl) <| x (r_loadB hB4 rfl rfl) <| x (r_fieldB rfl) <| x (r_loadB hB1 rfl rfl) <| x (r_geq rfl rfl) <| x (r_pick rfl) <| x r_assign <| xe ?_
    exact ⟨_, ⟨rfl, trivial⟩, rfl, by simp [h17, h23, h28]⟩
  rintro z g w5 ⟨rfl, rfl⟩
  refine W_if rfl (fun h14 => ?_) (fun h14 => ?_)
  · refine W_seq <| W_region (by rfl) ?_
    refine x r_assign <| xe ?_
    refine W_ret ⟨[.int .i64 2], ⟨rfl, trivial⟩, ?_, hsA⟩
    rw [← hm, if_pos h14]; rfl
  rw [if_neg h14] at hm
  refine W_seq <| W_region (by rfl) ?_
  refine x (r_fieldB rfl) <| x (r_loadB hB1 rfl rfl) <| x (r_fieldB rfl) <| x (r_loadB hB4 rfl rfl) <| xl rfl <| xf <| (contains_ok hal _).mono ?_
  rintro r4 w6 ⟨rfl, rfl⟩
  refine x (r_not rfl) <| x r_assign <| xe ?_
  refine W_cond rfl (fun h37 => ?_) (fun h37 => ?_)
  · have hn : a.ed[k].2.1 ∉ a.al := by simpa using h37
    refine W_seq <| W_region (by rfl) ?_
    refine x r_assign <| xe ?_
    refine W_ret ⟨[.int .i64 9], ⟨rfl, trivial⟩, ?_, hsA⟩
    rw [← hm, if_pos hn]; rfl
  have hn : ¬ (a.ed[k].2.1 ∉ a.al) := by simpa using h37
  rw [if_neg hn] at hm
  refine W_skip ?_
  refine W_seq <| W_seq <| W_region (by rfl) ?_
  refine x r_move <| x (r_eql rfl rfl) <| xe ?_
  refine W_if rfl (fun h45 => ?_) (fun h45 => ?_)
  · have h0 : k = 0 := by omega
    rw [if_neg (by simp [pv, h0, edO])] at hm
    refine W_exit ?_
    refine W_region (by rfl) ?_
    refine x (r_add rfl rfl ⟨by omega, by omega⟩) <| x r_move <| xe ?_
    exact ⟨k + 1, by omega, ⟨rfl, trivial⟩, hs2.trans hs5, by omega, by rw [pv_succ hlt]; exact hm⟩
  have h0 : k ≠ 0 := by omega
  have hk1 : ((k : Int) - 1) = ((k - 1 : Nat) : Int) := by omega
  have hlt1 : k - 1 < a.ed.length := by omega
  refine W_skip ?_
  refine W_seq <| W_region (by rfl) ?_
  refine x (r_fieldB rfl) <| x (r_loadB hB1 rfl rfl) <| x r_move <| x (r_sub rfl rfl ⟨by omega, by omega⟩) <| xie (i := k - 1) hed rfl (by show Value.int _ ((k : Int) - 1) = _; rw [hk1]) hlt1 fun a50 h50 =>
    x (r_loadsA h50 rfl rfl) <| xl rfl <| o_alloc (us := [.int .i64 0, .int .i64 0, .int .i64 0]) rfl fun b5 w7 hs7 hb5 hB5 => xl rfl <| o_stores hB5 rfl rfl rfl rfl ⟨rfl, rfl, rfl, trivial⟩ fun w8 hs8 hB5 => xe ?_
  have hs9 := hs7.then1 hs8 hb5
  replace hB4 := hB4.ext hs9
  replace hsA := hsA.trans hs9
  have hp : pv a.ed k = some a.ed[k - 1] := by simp [pv, h0, hlt1]
  rw [hp] at hm
  refine W_cut (α := Bool) [(52, 70)] (fun z => [(70, .bool z)]) (fun z w' => w' = w8 ∧ z = edO (some a.ed[k - 1]) a.ed[k]) (by rfl) ?_ ?_
  · refine W_region (by rfl) ?_
    refine x (r_fieldB rfl) <| x (r_loadB hB4 rfl rfl) <| x (r_fieldB rfl) <| x (r_loadB hB5 rfl rfl) <| xb (r_lss rfl rfl) (fun h56 => ?_) (fun h56 => ?_)
    · refine x r_move <| xs rfl <| xs rfl <| xs rfl <| xs rfl <| xs rfl <| xs rfl <| xs rfl <| xs rfl <| xs rfl <| xs rfl <| xs rfl <| xs rfl <| x (r_pick rfl) <| xe ?_
      exact ⟨true, ⟨rfl, trivial⟩, rfl, by simp [edO, h56]⟩
    refine x r_move <| x (r_fieldB rfl) <| x (r_loadB hB4 rfl rfl) <| x (r_fieldB rfl) <| x (r_loadB hB5 rfl rfl) <| xb (r_eql rfl rfl) (fun h62 => ?_) (fun h62 => ?_)
    · refine x r_move <| x (r_fieldB rfl) <| x (r_loadB hB4 rfl rfl) <| x (r_fieldB rfl) <| x (r_loadB hB5 rfl rfl) <| x (r_leq rfl rfl) <| x (r_pick rfl) <| x (r_pick rfl) <| xe ?_
      exact ⟨_, ⟨rfl, trivial⟩, rfl, by simp [edO, h62]⟩
    refine x r_move <| xs rfl <| xs rfl <| xs rfl <| xs rfl <| xs rfl <| x (r_pick rfl) <| x (r_pick rfl) <| xe ?_
    exact ⟨false, ⟨rfl, trivial⟩, rfl, by simp [edO, h62, h56]⟩
  rintro z g w9 ⟨rfl, rfl⟩
  refine W_cond rfl (fun h70 => ?_) (fun h70 => ?_)
  · refine W_seq <| W_region (by rfl) ?_
    refine x r_assign <| xe ?_
    refine W_ret ⟨[.int .i64 5], ⟨rfl, trivial⟩, ?_, hsA⟩
    rw [← hm, if_pos h70]; rfl
  rw [if_neg (by simp [h70])] at hm
  refine W_skip ?_
  refine W_region (by rfl) ?_
  refine x (r_add rfl rfl ⟨by omega, by omega⟩) <| x r_move <| xe ?_
  exact ⟨k + 1, by omega, ⟨rfl, trivial⟩, (hs2.trans hs5).trans hs9, by omega, by rw [pv_succ hlt]; exact hm⟩

theorem check_ok {L : List Nat} {w : World} {va vm ve : Value} {a : Aut} (h : AutA L w.heap va vm ve a) :
    Ret Tryz.prog 15 [.agg #[va, .int .i64 a.st, vm, ve]] w fun r w' => r = .int .i64 (ckA a) ∧ Step [] w w' := by
  refine Ret.of_W Tryz.func15 rfl Tryz.ntmps15 Tryz.results15 (by simp) ?_
  refine W_seq <| W_region (by rfl) ?_
  refine xl rfl <| o_box (us := [va, .int .i64 a.st, vm, ve]) rfl fun b1 w1 hs1 hb1 hB1 => x r_assign <| xe ?_
  replace h := h.ext hs1
  refine W_seq <| W_seq <| W_region (by rfl) ?_
  refine x (r_fieldB rfl) <| x (r_loadB hB1 rfl rfl) <| xl rfl <| xf <| (checkSet_ok h.al 32).mono ?_
  rintro r2 w2 ⟨rfl, rfl⟩
  refine x r_assign <| xe ?_
  refine W_seq <| W_region (by rfl) ?_
  refine x r_move <| x (r_neq rfl rfl) <| xe ?_
  refine W_if rfl (fun h9 => ?_) (fun h9 => ?_)
  · refine W_seq <| W_region (by rfl) ?_
    refine x r_move <| x r_assign <| xe ?_
    refine W_ret ⟨[.int .i64 (ckS 32 none a.al)], ⟨rfl, trivial⟩, ?_, hs1⟩
    rw [ckA, if_pos h9]; rfl
  refine W_skip ?_
  refine W_seq <| W_block <| W_seq <| W_region (by rfl) ?_
  refine x (r_fieldB rfl) <| x (r_loadB hB1 rfl rfl) <| x (r_lss rfl rfl) <| x r_assign <| xe ?_
  refine W_if rfl (fun h11 => ?_) (fun h11 => ?_)
  · refine W_seq <| W_region (by rfl) ?_
    refine x r_assign <| xe ?_
    refine W_ret ⟨[.int .i64 2], ⟨rfl, trivial⟩, ?_, hs1⟩
    rw [ckA, if_neg h9, if_pos h11]; rfl
  refine W_seq <| W_region (by rfl) ?_
  refine x (r_fieldB rfl) <| x (r_loadB hB1 rfl rfl) <| x (r_gtr rfl rfl) <| x r_assign <| xe ?_
  refine W_if rfl (fun h15 => ?_) (fun h15 => ?_)
  · refine W_seq <| W_region (by rfl) ?_
    refine x r_assign <| xe ?_
    refine W_ret ⟨[.int .i64 3], ⟨rfl, trivial⟩, ?_, hs1⟩
    rw [ckA, if_neg h9, if_neg h11, if_pos h15]; rfl
  refine W_skip ?_
  refine W_seq <| W_seq <| W_region (by rfl) ?_
  refine x (r_fieldB rfl) <| x (r_loadB hB1 rfl rfl) <| x (r_fieldB rfl) <| x (r_loadB hB1 rfl rfl) <| xl rfl <| xf <| (checkSet_ok h.mr a.st).mono ?_
  rintro r3 w3 ⟨rfl, rfl⟩
  refine x r_assign <| xe ?_
  refine W_seq <| W_region (by rfl) ?_
  refine x r_move <| x (r_neq rfl rfl) <| xe ?_
  refine W_if rfl (fun h25 => ?_) (fun h25 => ?_)
  · refine W_seq <| W_region (by rfl) ?_
    refine x r_move <| x r_assign <| xe ?_
    refine W_ret ⟨[.int .i64 (ckS a.st none a.mr)], ⟨rfl, trivial⟩, ?_, hs1⟩
    rw [ckA, if_neg h9, if_neg h11, if_neg h15, if_pos h25]; rfl
  refine W_skip ?_
  refine W_seq <| W_region (by rfl) ?_
  refine x (r_loadsB hB1 rfl rfl) <| xl rfl <| xf <| (checkEdges_ok h).mono ?_
  rintro r4 w4 ⟨rfl, hs4⟩
  refine x r_assign <| xe ?_
  refine W_ret ⟨[.int .i64 (ckE a.al a.st none a.ed)], ⟨rfl, trivial⟩, ?_, hs1.trans hs4⟩
  rw [ckA, if_neg h9, if_neg h11, if_neg h15, if_neg h25]; rfl
end Go.Proofs.YtfhgnlkdcdlblaaGreatDoor
/- Contracts: alphabet.merge and what is made of it; slices.Clone. -/
namespace Go.Proofs.YtfhgnlkdcdlblaaGreatDoor
open Go.Lg

theorem clone_ok {L : List Nat} {w : World} {v : Value} {l : List Int} (h : Ints L w.heap v l) :
    Ret Tryz.prog 48 [v] w fun r w' => Step [] w w' ∧ IntsO 3 w.heap.size w' r l := by
  have hle := h.le
  refine Ret.of_W Tryz.func48 rfl Tryz.ntmps48 Tryz.results48 (by simp) ?_
  refine W_seq <| W_region (by rfl) ?_
  refine x r_assign <| xe ?_
  obtain ⟨ao, cap, hv⟩ := h.shape
  refine W_seq <| W_seq <| W_region (by rfl) ?_
  refine x r_move <| x (r_eqnil (show ev _ _ = _ from hv) rfl) <| xe ?_
  refine W_cond rfl (fun h4 => ?_) (fun h4 => ?_)
  · refine W_seq <| W_region (by rfl) ?_
    refine x r_assign <| xe ?_
    refine W_ret ⟨[.slice none 0 0], ⟨rfl, trivial⟩, Step.refl _ _, ?_⟩
    rcases h.2.2 with ⟨h1, h2⟩ | ⟨a, c, h1, _⟩
    · have : l = [] := List.eq_nil_of_length_eq_zero h2
      subst this; exact own_nil _ _ _ _
    · rw [h1] at hv; cases hv; cases h4
  rcases h.2.2 with ⟨h1, h2⟩ | ⟨a, c, h1, h2, h3⟩
  · rw [h1] at hv; injection hv with e1; subst e1; cases h4
  refine W_skip ?_
  refine W_seq <| W_region (by rfl) ?_
  refine xl rfl <| o_lit0 fun b5 w1 hs1 hb5 hB5 => x r_move <| xl rfl <| o_app (base := w.heap.size) (hB5.own (n := 0) (sz := 1) rfl (by omega) hb5) rfl (show ev _ _ = _ from h1) (by simp) (h3.ext hs1) (one_ints l) (by omega) (by have := hB5.lt; omega) fun v2 w2 ho2 hs2 hn2 => x r_assign <| xe ?_
  refine W_ret ⟨[v2], ⟨rfl, trivial⟩, hs1.then1 hs2 hb5, ?_⟩
  simpa [tup] using ho2

theorem merge_ok {g : Nat} {fn : Func} [Fu Tryz.prog g fn] {keep : Bool → Bool → Bool} (hk : ∀ (p q : Bool) (w : World), Ret Tryz.prog g [.bool p, .bool q] w fun r w' => r = .bool (keep p q) ∧ w' = w)
    {L L' : List Nat} {w : World} {va vb : Value} {a b : List Int} (ha : Ints L w.heap va a) (hb : Ints L' w.heap vb b) (hlen : a.length + b.length ≤ 1099511627776) :
    Ret Tryz.prog 61 [va, vb, .func (.func g) #[] #[]] w fun r w' => Step [] w w' ∧ IntsO 3 w.heap.size w' r (mrg keep a b) := by
  refine Ret.of_W Tryz.func61 rfl Tryz.ntmps61 Tryz.results61 (by simp) ?_
  refine W_seq <| W_region (by rfl) ?_
  refine x r_assign <| xe ?_
  refine W_seq <| W_region (by rfl) ?_
  refine x r_assign <| xe ?_
  refine W_seq <| W_block <| W_loop (α := (List Int × Value) × (List Int × Value) × (List Int × Value)) [(0, 1), (7, 72)] (fun z => [(0, z.1.2), (1, z.2.1.2), (7, z.2.2.2)])
    (fun z w' => Ints L w.heap z.1.2 z.1.1 ∧ Ints L' w.heap z.2.1.2 z.2.1.1 ∧ IntsO 3 w.heap.size w' z.2.2.2 z.2.2.1 ∧ Step [] w w' ∧ z.2.2.1 ++ mrg keep z.1.1 z.2.1.1 = mrg keep a b ∧ z.2.2.1.length + z.1.1.length + z.2.1.1.length ≤ 1099511627776)
    (fun z => z.1.1.length + z.2.1.1.length) (by rfl) ((a, va), (b, vb), ([], .slice none 0 0)) ⟨rfl, rfl, rfl, trivial⟩ ⟨ha, hb, own_nil _ _ _ _, Step.refl _ _, rfl, by simp; omega⟩ ?_
  clear ha hb
  rintro ⟨⟨a1, va1⟩, ⟨b1, vb1⟩, ⟨o, vo⟩⟩ g1 w1 ⟨ha, hb, ho, hs, hm, hl⟩
  simp only [] at ha hb ho hs hm hl
  refine W_seq <| W_cut (α := Bool) [(11, 18)] (fun z => [(18, .bool z)]) (fun z w' => w' = w1 ∧ z = decide (¬ (a1 = [] ∧ b1 = []))) (by rfl) ?_ ?_
  · refine W_region (by rfl) ?_
    refine x r_move <| x (r_lenA ha rfl) <| xb (r_gtr rfl rfl) (fun h13 => ?_) (fun h13 => ?_)
    · refine x r_move <| xs rfl <| xs rfl <| xs rfl <| x (r_pick rfl) <| xe ?_
      have : a1 ≠ [] := by intro e; subst e; simp at h13
      exact ⟨true, ⟨rfl, trivial⟩, rfl, by simp [this]⟩
    refine x r_move <| x r_move <| x (r_lenA hb rfl) <| x (r_gtr rfl rfl) <| x (r_pick rfl) <| xe ?_
    have : a1 = [] := List.eq_nil_of_length_eq_zero (by omega)
    refine ⟨_, ⟨rfl, trivial⟩, rfl, ?_⟩
    cases b1 <;> simp [this]
  rintro z g2 w2 ⟨rfl, rfl⟩
  refine W_ifn rfl (fun h18 => ?_) (fun h18 => ?_)
  · refine W_exit ?_
    refine W_seq <| W_region (by rfl) ?_
    refine x r_move <| x r_assign <| xe ?_
    refine W_ret ⟨[vo], ⟨rfl, trivial⟩, hs, ?_⟩
    obtain ⟨rfl, rfl⟩ := Decidable.not_not.1 h18
    rw [mrg_nil, List.append_nil] at hm
    rw [← hm]; exact ho
  refine W_skip ?_
  rw [mrg_step keep h18] at hm
  have hlt := inA_tl h18
  have hla := ha.le
  have hlb := hb.le
  -- the two tests
  refine W_block <| W_cut (α := Bool) [(8, 8), (19, 35)] (fun z => [(8, .bool z)]) (fun z w' => Step [] w2 w' ∧ z = inA a1 b1) (by rfl) ?_ ?_
  · refine W_draw (Step [] w2) [(0, true), (1, true), (2, true), (3, true), (4, true), (5, true), (6, true), (7, true), (8, true), (9, true), (10, true), (11, true), (12, true), (13, true), (14, true), (15, true), (16, true), (17, true)] Tryz.mixed (by rfl) (by kernel_rfl) (Step.drew _ _) ?_
    refine p (fun _ => r_move) <| p (fun _ => r_lenA ha rfl) <| pb (fun _ => r_gtr rfl rfl) (fun h21 => ?_) (fun h21 => ?_)
    · refine p (fun _ => r_move) <| p (fun _ => r_move) <| p (fun _ => r_lenA hb rfl) <| pb (fun _ => r_eql rfl rfl) (fun h25 => ?_) (fun h25 => ?_)
      · refine p (fun _ => r_move) <| ps <| ps <| ps <| ps <| ps <| ps <| ps <| p (fun _ => r_pick rfl) <| p (fun _ => r_pick rfl) <| p (fun _ => r_assign) <| pe ?_
        refine ⟨true, ⟨rfl, trivial⟩, Step.drew _ _, ?_⟩
        have : b1 = [] := List.eq_nil_of_length_eq_zero (by omega)
        subst this
        cases a1 with
        | nil => simp at h21
        | cons y a1 => rfl
      have hA : 0 < a1.length := by omega
      have hB : 0 < b1.length := by omega
      refine p (fun _ => r_move) <| p (fun _ => r_move) <| pii rfl (i := 0) (ha.ext hs) rfl rfl hA fun a28 h28 => pq (fun _ hc => r_loadA (h28.ext hc) rfl) <|
        p (fun _ => r_move) <| pii rfl (i := 0) (hb.ext hs) rfl rfl hB fun a31 h31 => pq (fun _ hc => r_loadA (h31.ext hc) rfl) <| p (fun _ => r_leq rfl rfl) <|
        p (fun _ => r_pick rfl) <| p (fun _ => r_pick rfl) <| p (fun _ => r_assign) <| pe ?_
      refine ⟨_, ⟨rfl, trivial⟩, Step.drew _ _, ?_⟩
      cases a1 with
      | nil => simp at hA
      | cons y a1 => cases b1 with
        | nil => simp at hB
        | cons z b1 => rfl
    refine p (fun _ => r_move) <| ps <| ps <| ps <| ps <| ps <| ps <| ps <| ps <| ps <| ps <| ps <| ps <| p (fun _ => r_pick rfl) <| p (fun _ => r_assign) <| pe ?_
    refine ⟨false, ⟨rfl, trivial⟩, Step.drew _ _, ?_⟩
    have : a1 = [] := List.eq_nil_of_length_eq_zero (by omega)
    subst this; rfl
  rintro z g3 w3 ⟨hs3, rfl⟩
  replace ho := own_ext ho hs3
  replace hs := hs.trans hs3
  refine W_cut (α := Bool) [(9, 9), (36, 52)] (fun z => [(9, .bool z)]) (fun z w' => Step [] w3 w' ∧ z = inA b1 a1) (by rfl) ?_ ?_
  · refine W_draw (Step [] w3) [(0, true), (1, true), (2, true), (3, true), (4, true), (5, true), (6, true), (7, true), (8, true), (9, true), (10, true), (11, true), (12, true), (13, true), (14, true), (15, true), (16, true), (17, true)] Tryz.mixed (by rfl) (by kernel_rfl) (Step.drew _ _) ?_
    refine p (fun _ => r_move) <| p (fun _ => r_lenA hb rfl) <| pb (fun _ => r_gtr rfl rfl) (fun h38 => ?_) (fun h38 => ?_)
    · refine p (fun _ => r_move) <| p (fun _ => r_move) <| p (fun _ => r_lenA ha rfl) <| pb (fun _ => r_eql rfl rfl) (fun h42 => ?_) (fun h42 => ?_)
      · refine p (fun _ => r_move) <| ps <| ps <| ps <| ps <| ps <| ps <| ps <| p (fun _ => r_pick rfl) <| p (fun _ => r_pick rfl) <| p (fun _ => r_assign) <| pe ?_
        refine ⟨true, ⟨rfl, trivial⟩, Step.drew _ _, ?_⟩
        have : a1 = [] := List.eq_nil_of_length_eq_zero (by omega)
        subst this
        cases b1 with
        | nil => simp at h38
        | cons y b1 => rfl
      have hA : 0 < a1.length := by omega
      have hB : 0 < b1.length := by omega
      refine p (fun _ => r_move) <| p (fun _ => r_move) <| pii rfl (i := 0) (hb.ext hs) rfl rfl hB fun a45 h45 => pq (fun _ hc => r_loadA (h45.ext hc) rfl) <|
        p (fun _ => r_move) <| pii rfl (i := 0) (ha.ext hs) rfl rfl hA fun a48 h48 => pq (fun _ hc => r_loadA (h48.ext hc) rfl) <| p (fun _ => r_leq rfl rfl) <|
        p (fun _ => r_pick rfl) <| p (fun _ => r_pick rfl) <| p (fun _ => r_assign) <| pe ?_
      refine ⟨_, ⟨rfl, trivial⟩, Step.drew _ _, ?_⟩
      cases a1 with
      | nil => simp at hA
      | cons y a1 => cases b1 with
        | nil => simp at hB
        | cons z b1 => rfl
    refine p (fun _ => r_move) <| ps <| ps <| ps <| ps <| ps <| ps <| ps <| ps <| ps <| ps <| ps <| ps <| p (fun _ => r_pick rfl) <| p (fun _ => r_assign) <| pe ?_
    refine ⟨false, ⟨rfl, trivial⟩, Step.drew _ _, ?_⟩
    have : b1 = [] := List.eq_nil_of_length_eq_zero (by omega)
    subst this; rfl
  rintro z g4 w4 ⟨hs4, rfl⟩
  replace ho := own_ext ho hs4
  replace hs := hs.trans hs4
  refine W_seq <| W_region (by rfl) ?_
  refine x r_assign <| xe ?_
  -- a's head
  refine W_cut (α := Value) [(0, 0), (10, 10), (53, 58)] (fun z => [(0, z), (10, .int .i64 (bif inA a1 b1 then a1.headD 0 else 0))]) (fun z w' => Step [] w4 w' ∧ Ints L w.heap z (tl (inA a1 b1) a1)) (by rfl) ?_ ?_
  · refine W_seq <| W_region (by rfl) ?_
    refine x r_move <| xe ?_
    refine W_cond rfl (fun h53 => ?_) (fun h53 => ?_)
    · have hA : 0 < a1.length := by cases a1 with | nil => simp [inA] at h53 | cons y a1 => simp
      refine W_draw (Step [] w4) [(0, true), (1, true), (2, true), (3, true), (4, true), (5, true), (6, true)] Tryz.mixed (by rfl) (by kernel_rfl) (Step.drew _ _) ?_
      refine p (fun _ => r_move) <| pii rfl (i := 0) (ha.ext hs) rfl rfl hA fun a55 h55 => pq (fun _ hc => r_loadA (h55.ext hc) rfl) <| p (fun _ => r_move) <|
        pslL rfl (lo := 1) ha rfl rfl hA fun v' hv' => p (fun _ => r_assign) <| p (fun _ => r_assign) <| pe ?_
      have hv2 := Ints.drop hv'
      refine ⟨v', ⟨rfl, ?_, trivial⟩, Step.drew _ _, ?_⟩
      · show Value.int .i64 a1[0] = _
        rw [h53]; cases a1 with | nil => simp at hA | cons y a1 => rfl
      · rw [h53]; simpa [tl] using hv2
    refine W_skip ?_
    refine ⟨va1, ⟨rfl, by show _ = _; rw [h53]; rfl, trivial⟩, Step.refl _ _, ?_⟩
    rw [h53]; exact ha
  rintro va2 g5 w5 ⟨hs5, ha2⟩
  replace ho := own_ext ho hs5
  replace hs := hs.trans hs5
  -- b's head
  refine W_cut (α := Value) [(1, 1), (10, 10), (59, 64)] (fun z => [(1, z), (10, .int .i64 (bif inA b1 a1 then b1.headD 0 else bif inA a1 b1 then a1.headD 0 else 0))]) (fun z w' => Step [] w5 w' ∧ Ints L' w.heap z (tl (inA b1 a1) b1)) (by rfl) ?_ ?_
  · refine W_seq <| W_region (by rfl) ?_
    refine x r_move <| xe ?_
    refine W_cond rfl (fun h59 => ?_) (fun h59 => ?_)
    · have hB : 0 < b1.length := by cases b1 with | nil => simp [inA] at h59 | cons y b1 => simp
      refine W_draw (Step [] w5) [(0, true), (1, true), (2, true), (3, true), (4, true), (5, true), (6, true)] Tryz.mixed (by rfl) (by kernel_rfl) (Step.drew _ _) ?_
      refine p (fun _ => r_move) <| pii rfl (i := 0) (hb.ext hs) rfl rfl hB fun a55 h55 => pq (fun _ hc => r_loadA (h55.ext hc) rfl) <| p (fun _ => r_move) <|
        pslL rfl (lo := 1) hb rfl rfl hB fun v' hv' => p (fun _ => r_assign) <| p (fun _ => r_assign) <| pe ?_
      have hv2 := Ints.drop hv'
      refine ⟨v', ⟨rfl, ?_, trivial⟩, Step.drew _ _, ?_⟩
      · show Value.int .i64 b1[0] = _
        rw [h59]; cases b1 with | nil => simp at hB | cons y b1 => rfl
      · rw [h59]; simpa [tl] using hv2
    refine W_skip ?_
    refine ⟨vb1, ⟨rfl, by show _ = _; rw [h59]; rfl, trivial⟩, Step.refl _ _, ?_⟩
    rw [h59]; exact hb
  rintro vb2 g6 w6 ⟨hs6, hb2⟩
  replace ho := own_ext ho hs6
  replace hs := hs.trans hs6
  have hxe : (bif inA b1 a1 then b1.headD 0 else bif inA a1 b1 then a1.headD 0 else 0) = hx a1 b1 := by
    unfold hx
    cases e : inA b1 a1 with
    | true => rfl
    | false =>
      cases e2 : inA a1 b1 with
      | true => rfl
      | false => rw [e, e2] at hlt; simp [tl] at hlt
  refine W_seq <| W_region (by rfl) ?_
  refine x r_move <| x r_move <| x r_move <| xl rfl <| xc (first := []) (capt := []) rfl <| (hk _ _ _).mono ?_
  rintro r7 w7 ⟨rfl, rfl⟩
  refine xe ?_
  refine W_cond rfl (fun h68 => ?_) (fun h68 => ?_)
  · refine W_region (by rfl) ?_
    rw [h68, cond_true] at hm
    refine x r_move <| x r_move <| xl rfl <| o_lits (us := [[.int .i64 (hx a1 b1)]]) rfl rfl (by decide) (by simp) ⟨by rw [← hxe]; rfl, rfl, trivial⟩ fun b71 w8 hs8 hb71 hB71 =>
      xl rfl <| o_app (news := [.int .i64 (hx a1 b1)]) (L := []) (own_ext ho hs8) rfl rfl rfl (hB71.at (by simp)) (by simp [Value.oneCell']) (by omega) (by have := hs.size; have := hs8.size; omega) fun v9 w9 ho9 hs9 hn9 => x r_assign <| xe ?_
    have hge := own_ge ho
    refine ⟨((tl (inA a1 b1) a1, va2), (tl (inA b1 a1) b1, vb2), (o ++ [hx a1 b1], v9)), by simp only []; omega, ⟨rfl, rfl, rfl, trivial⟩, ha2, hb2, ?_, (hs.trans hs8).then hs9 (fun b hb => .inr (hge b hb).1), by rw [List.append_assoc]; exact hm, by simp only [List.length_append, List.length_singleton]; omega⟩
    exact IntsO.snoc ho9
  rw [h68, cond_false, List.nil_append] at hm
  refine W_skip ?_
  exact ⟨((tl (inA a1 b1) a1, va2), (tl (inA b1 a1) b1, vb2), (o, vo)), by simp only []; omega, ⟨rfl, rfl, rfl, trivial⟩, ha2, hb2, ho, hs, hm, by simp only []; omega⟩

theorem and_ok (p q : Bool) (w : World) : Ret Tryz.prog 62 [.bool p, .bool q] w fun r w' => r = .bool (p && q) ∧ w' = w := by
  refine Ret.of_W Tryz.func62 rfl Tryz.ntmps62 Tryz.results62 (by simp) ?_
  refine W_seq <| W_region (by rfl) ?_
  refine x r_assign <| xe ?_
  refine W_seq <| W_region (by rfl) ?_
  cases p
  · refine x r_move <| x r_move <| xs rfl <| x (r_pick rfl) <| x r_assign <| xe ?_
    exact W_ret ⟨[.bool false], ⟨rfl, trivial⟩, rfl, rfl⟩
  · refine x r_move <| x r_move <| x r_move <| x (r_pick rfl) <| x r_assign <| xe ?_
    exact W_ret ⟨[.bool q], ⟨rfl, trivial⟩, rfl, rfl⟩
theorem or_ok (p q : Bool) (w : World) : Ret Tryz.prog 73 [.bool p, .bool q] w fun r w' => r = .bool (p || q) ∧ w' = w := by
  refine Ret.of_W Tryz.func73 rfl Tryz.ntmps73 Tryz.results73 (by simp) ?_
  refine W_seq <| W_region (by rfl) ?_
  refine x r_assign <| xe ?_
  refine W_seq <| W_region (by rfl) ?_
  cases p
  · refine x r_move <| x r_move <| x r_move <| x (r_pick rfl) <| x r_assign <| xe ?_
    exact W_ret ⟨[.bool q], ⟨rfl, trivial⟩, rfl, rfl⟩
  · refine x r_move <| x r_move <| xs rfl <| x (r_pick rfl) <| x r_assign <| xe ?_
    exact W_ret ⟨[.bool true], ⟨rfl, trivial⟩, rfl, rfl⟩
theorem minus_ok (p q : Bool) (w : World) : Ret Tryz.prog 64 [.bool p, .bool q] w fun r w' => r = .bool (p && !q) ∧ w' = w := by
  refine Ret.of_W Tryz.func64 rfl Tryz.ntmps64 Tryz.results64 (by simp) ?_
  refine W_seq <| W_region (by rfl) ?_
  refine x r_assign <| xe ?_
  refine W_seq <| W_region (by rfl) ?_
  cases p
  · refine x r_move <| x r_move <| xs rfl <| xs rfl <| x (r_pick rfl) <| x r_assign <| xe ?_
    exact W_ret ⟨[.bool false], ⟨rfl, trivial⟩, rfl, rfl⟩
  · refine x r_move <| x r_move <| x r_move <| x (r_not rfl) <| x (r_pick rfl) <| x r_assign <| xe ?_
    exact W_ret ⟨[.bool (!q)], ⟨rfl, trivial⟩, rfl, rfl⟩
theorem Intersect_ok {L L' : List Nat} {w : World} {va vb : Value} {a b : List Int} (ha : Ints L w.heap va a) (hb : Ints L' w.heap vb b) (hlen : a.length + b.length ≤ 1099511627776) :
    Ret Tryz.prog 28 [va, vb] w fun r w' => Step [] w w' ∧ IntsO 3 w.heap.size w' r (mrg (· && ·) a b) := by
  refine Ret.of_W Tryz.func28 rfl Tryz.ntmps28 Tryz.results28 (by simp) ?_
  refine W_seq <| W_region (by rfl) ?_
  refine x r_assign <| xe ?_
  refine W_seq <| W_region (by rfl) ?_
  refine x r_move <| x r_move <| xl rfl <| xf <| (merge_ok and_ok ha hb hlen).mono ?_
  rintro r1 w1 ⟨hs, ho⟩
  refine x r_assign <| xe ?_
  exact W_ret ⟨[r1], ⟨rfl, trivial⟩, hs, ho⟩
theorem Union_ok {L L' : List Nat} {w : World} {va vb : Value} {a b : List Int} (ha : Ints L w.heap va a) (hb : Ints L' w.heap vb b) (hlen : a.length + b.length ≤ 1099511627776) :
    Ret Tryz.prog 51 [va, vb] w fun r w' => Step [] w w' ∧ IntsO 3 w.heap.size w' r (mrg (· || ·) a b) := by
  refine Ret.of_W Tryz.func51 rfl Tryz.ntmps51 Tryz.results51 (by simp) ?_
  refine W_seq <| W_region (by rfl) ?_
  refine x r_assign <| xe ?_
  refine W_seq <| W_region (by rfl) ?_
  refine x r_move <| x r_move <| xl rfl <| xf <| (merge_ok or_ok ha hb hlen).mono ?_
  rintro r1 w1 ⟨hs, ho⟩
  refine x r_assign <| xe ?_
  exact W_ret ⟨[r1], ⟨rfl, trivial⟩, hs, ho⟩
theorem Minus_ok {L L' : List Nat} {w : World} {va vb : Value} {a b : List Int} (ha : Ints L w.heap va a) (hb : Ints L' w.heap vb b) (hlen : a.length + b.length ≤ 1099511627776) :
    Ret Tryz.prog 30 [va, vb] w fun r w' => Step [] w w' ∧ IntsO 3 w.heap.size w' r (mrg (fun p q => p && !q) a b) := by
  refine Ret.of_W Tryz.func30 rfl Tryz.ntmps30 Tryz.results30 (by simp) ?_
  refine W_seq <| W_region (by rfl) ?_
  refine x r_assign <| xe ?_
  refine W_seq <| W_region (by rfl) ?_
  refine x r_move <| x r_move <| xl rfl <| xf <| (merge_ok minus_ok ha hb hlen).mono ?_
  rintro r1 w1 ⟨hs, ho⟩
  refine x r_assign <| xe ?_
  exact W_ret ⟨[r1], ⟨rfl, trivial⟩, hs, ho⟩
theorem Subset_ok {L L' : List Nat} {w : World} {va vb : Value} {a b : List Int} (ha : Ints L w.heap va a) (hb : Ints L' w.heap vb b) (hlen : a.length + b.length ≤ 1099511627776) :
    Ret Tryz.prog 16 [va, vb] w fun r w' => Step [] w w' ∧ r = .bool (decide (mrg (fun p q => p && !q) a b = [])) := by
  refine Ret.of_W Tryz.func16 rfl Tryz.ntmps16 Tryz.results16 (by simp) ?_
  refine W_seq <| W_region (by rfl) ?_
  refine x r_assign <| xe ?_
  refine W_seq <| W_region (by rfl) ?_
  refine x r_move <| x r_move <| xl rfl <| xf <| (Minus_ok ha hb hlen).mono ?_
  rintro r1 w1 ⟨hs, ho⟩
  have hm := mrg_len (fun p q => p && !q) a b
  have hi := IntsO.ints (L := []) ho (by omega) (by simp)
  refine x (r_lenA hi rfl) <| x (r_eql rfl rfl) <| x r_assign <| xe ?_
  refine W_ret ⟨[.bool (decide (((mrg (fun p q => p && !q) a b).length : Int) = 0))], ⟨rfl, trivial⟩, hs, ?_⟩
  simp [tup]
end Go.Proofs.YtfhgnlkdcdlblaaGreatDoor
/- Contracts: slices.BinarySearchFunc on edges, automaton.out. -/
namespace Go.Proofs.YtfhgnlkdcdlblaaGreatDoor
open Go.Lg

theorem bsf_ok {g : Nat} {fn : Func} [Fu Tryz.prog g fn] (hk : ∀ (e : Ed) (s : Int) (w : World), 0 ≤ e.1 → e.1 ≤ 1099511627776 → 0 ≤ s → s ≤ 1099511627776 → Ret Tryz.prog g [.agg (edCells e).toArray, .int .i64 s] w fun r w' => r = .int .i64 (e.1 - s) ∧ Step [] w w')
    {L : List Nat} {w : World} {v : Value} {es : List Ed} (h : Eds L w.heap v es) (hi : es.Pairwise (fun a b => a.1 ≤ b.1)) (hb : ∀ e ∈ es, 0 ≤ e.1 ∧ e.1 ≤ 1099511627776) (s : Int) (hs0 : 0 ≤ s) (hs1 : s ≤ 1099511627776) :
    Ret Tryz.prog 97 [v, .int .i64 s, .func (.func g) #[] #[]] w fun r w' => Step [] w w' ∧ ∃ (i : Nat) (b : Bool), r = .tuple #[.int .i64 i, .bool b] ∧ i ≤ es.length ∧
      (∀ m (hm : m < es.length), m < i → es[m].1 < s) ∧ (∀ m (hm : m < es.length), i ≤ m → s ≤ es[m].1) := by
  have hle := h.le
  have hget : ∀ {i j : Nat} (hj : j < es.length) (hij : i < j), es[i].1 ≤ es[j].1 := fun {i j} hj hij => List.pairwise_iff_getElem.1 hi i j (by omega) hj hij
  have hbd : ∀ m (hm : m < es.length), 0 ≤ es[m].1 ∧ es[m].1 ≤ 1099511627776 := fun m hm => hb _ (List.getElem_mem hm)
  refine Ret.of_W Tryz.func97 rfl Tryz.ntmps97 Tryz.results97 (by simp) ?_
  refine W_seq <| W_region (by rfl) ?_
  refine x r_assign <| x r_assign <| xe ?_
  refine W_seq <| W_region (by rfl) ?_
  refine x r_move <| x (r_lenA h rfl) <| x r_assign <| xe ?_
  refine W_seq <| W_region (by rfl) ?_
  refine x r_move <| x r_assign <| x r_assign <| xe ?_
  refine W_seq <| W_block <| W_loop (α := Nat × Nat) [(9, 11), (15, 34)] (fun z => [(9, .int .i64 z.1), (10, .int .i64 z.2)])
    (fun z w' => Step [] w w' ∧ z.1 ≤ z.2 ∧ z.2 ≤ es.length ∧ (∀ m (hm : m < es.length), m < z.1 → es[m].1 < s) ∧ (∀ m (hm : m < es.length), z.2 ≤ m → s ≤ es[m].1)) (fun z => z.2 - z.1) (by rfl) (0, es.length) ⟨rfl, rfl, trivial⟩
    ⟨Step.refl _ _, Nat.zero_le _, Nat.le_refl _, fun m _ h0 => absurd h0 (Nat.not_lt_zero m), fun m h1 h0 => absurd h1 (by simp only [] at h0; omega)⟩ ?_
  rintro ⟨i, j⟩ g1 w1 ⟨hst, hij, hj, hlo, hhi⟩
  simp only [] at hij hj hlo hhi
  refine W_seq <| W_seq <| W_region (by rfl) ?_
  refine x r_move <| x r_move <| x (r_lss rfl rfl) <| xe ?_
  refine W_ifn rfl (fun h17 => ?_) (fun h17 => ?_)
  · have e : i = j := by omega
    subst e
    refine W_exit ?_
    refine W_cut (α := Bool) [(6, 7), (35, 48)] (fun z => [(6, .int .i64 i), (7, .bool z)]) (fun z w' => Step [] w1 w') (by rfl) ?_ ?_
    · refine W_region (by rfl) ?_
      refine x r_move <| x r_move <| x r_move <| xb (r_lss rfl rfl) (fun h38 => ?_) (fun h38 => ?_)
      · have hlt : i < es.length := by omega
        have hq := hbd i hlt
        refine x r_move <| x r_move <| x r_move <| x r_move <| xie (h.ext hst) rfl rfl hlt fun a43 h43 => x (r_loadsA h43 rfl rfl) <| x r_move <| xl rfl <| xc (first := []) (capt := []) rfl <| (hk es[i] s _ hq.1 hq.2 hs0 hs1).mono ?_
        rintro r2 w2 ⟨rfl, hs2⟩
        refine x (r_eql rfl rfl) <| x (r_pick rfl) <| x r_assign <| x r_assign <| xe ?_
        exact ⟨_, ⟨rfl, rfl, trivial⟩, hs2⟩
      refine x r_move <| xs rfl <| xs rfl <| xs rfl <| xs rfl <| xs rfl <| xs rfl <| xs rfl <| xs rfl <| x (r_pick rfl) <| x r_assign <| x r_assign <| xe ?_
      exact ⟨false, ⟨rfl, rfl, trivial⟩, Step.refl _ _⟩
    rintro z g3 w3 hs3
    exact W_ret ⟨[.int .i64 i, .bool z], ⟨rfl, rfl, trivial⟩, hst.trans hs3, i, z, rfl, hj, hlo, hhi⟩
  have hij' : i < j := by omega
  refine W_skip ?_
  refine W_block <| W_seq <| W_region (by rfl) ?_
  refine x r_move <| x r_move <| x (r_add rfl rfl ⟨by omega, by omega⟩) <| x (r_conv rfl (by exact ⟨by omega, by omega⟩)) <| x (r_shr (n := 1) rfl rfl (by decide)) <| x (r_conv rfl (by exact ⟨by omega, by omega⟩)) <| x r_assign <| xe ?_
  have hh : (((i : Int) + (j : Int)) / 2 ^ 1) = (((i + j) / 2 : Nat) : Int) := by omega
  rw [hh]
  generalize hq : (i + j) / 2 = q
  have hqi : i ≤ q := by omega
  have hqj : q < j := by omega
  have hql : q < es.length := by omega
  have hqb := hbd q hql
  refine W_seq <| W_region (by rfl) ?_
  refine x r_move <| x r_move <| x r_move <| xie (h.ext hst) rfl rfl hql fun a27 h27 => x (r_loadsA h27 rfl rfl) <| x r_move <| xl rfl <| xc (first := []) (capt := []) rfl <| (hk es[q] s _ hqb.1 hqb.2 hs0 hs1).mono ?_
  rintro r4 w4 ⟨rfl, hs4⟩
  refine x (r_lss rfl rfl) <| xe ?_
  refine W_ifn rfl (fun h31 => ?_) (fun h31 => ?_)
  · refine W_region (by rfl) ?_
    refine x r_move <| x r_assign <| xe ?_
    refine ⟨(i, q), by simp only []; omega, ⟨rfl, rfl, trivial⟩, hst.trans hs4, hqi, by omega, hlo, fun m hm hqm => ?_⟩
    by_cases e : q = m
    · subst e; omega
    · have := hget hm (show q < m by simp only [] at hqm; omega); omega
  refine W_region (by rfl) ?_
  refine x r_move <| x (r_add rfl rfl ⟨by omega, by omega⟩) <| x r_assign <| xe ?_
  refine ⟨(q + 1, j), by simp only []; omega, ⟨rfl, rfl, trivial⟩, hst.trans hs4, hqj, hj, fun m hm hmq => ?_, hhi⟩
  by_cases e : m = q
  · subst e; omega
  · have := hget hql (show m < q by simp only [] at hmq; omega); omega

theorem out1_ok (e : Ed) (s : Int) (w : World) (h0 : 0 ≤ e.1) (h1 : e.1 ≤ 1099511627776) (h2 : 0 ≤ s) (h3 : s ≤ 1099511627776) :
    Ret Tryz.prog 98 [.agg (edCells e).toArray, .int .i64 s] w fun r w' => r = .int .i64 (e.1 - s) ∧ Step [] w w' := by
  refine Ret.of_W Tryz.func98 rfl Tryz.ntmps98 Tryz.results98 (by simp) ?_
  refine W_seq <| W_region (by rfl) ?_
  refine xl rfl <| o_box (us := edCells e) rfl fun b2 w1 hs1 hb2 hB2 => x r_assign <| xe ?_
  refine W_seq <| W_region (by rfl) ?_
  refine x (r_fieldB rfl) <| x (r_loadB hB2 rfl rfl) <| x r_move <| x (r_sub rfl rfl ⟨by omega, by omega⟩) <| x r_assign <| xe ?_
  exact W_ret ⟨[.int .i64 (e.1 - s)], ⟨rfl, trivial⟩, rfl, hs1⟩
theorem out2_ok (e : Ed) (s : Int) (w : World) (h0 : 0 ≤ e.1) (h1 : e.1 ≤ 1099511627776) (h2 : 0 ≤ s) (h3 : s ≤ 1099511627776) :
    Ret Tryz.prog 99 [.agg (edCells e).toArray, .int .i64 s] w fun r w' => r = .int .i64 (e.1 - s) ∧ Step [] w w' := by
  refine Ret.of_W Tryz.func99 rfl Tryz.ntmps99 Tryz.results99 (by simp) ?_
  refine W_seq <| W_region (by rfl) ?_
  refine xl rfl <| o_box (us := edCells e) rfl fun b2 w1 hs1 hb2 hB2 => x r_assign <| xe ?_
  refine W_seq <| W_region (by rfl) ?_
  refine x (r_fieldB rfl) <| x (r_loadB hB2 rfl rfl) <| x r_move <| x (r_sub rfl rfl ⟨by omega, by omega⟩) <| x r_assign <| xe ?_
  exact W_ret ⟨[.int .i64 (e.1 - s)], ⟨rfl, trivial⟩, rfl, hs1⟩
theorem out_ok {L : List Nat} {w : World} {va vm ve : Value} {st : Int} {es : List Ed} (h : Eds L w.heap ve es) (hi : es.Pairwise (fun a b => a.1 ≤ b.1)) (hb : ∀ e ∈ es, 0 ≤ e.1 ∧ e.1 ≤ 1099511627776) (s : Int) (hs0 : 0 ≤ s) (hs1 : s < 1099511627776) :
    Ret Tryz.prog 79 [.agg #[va, .int .i64 st, vm, ve], .int .i64 s] w fun r w' => Step [] w w' ∧ Eds L w'.heap r (outE es s) := by
  refine Ret.of_W Tryz.func79 rfl Tryz.ntmps79 Tryz.results79 (by simp) ?_
  refine W_seq <| W_region (by rfl) ?_
  refine xl rfl <| o_box (us := [va, .int .i64 st, vm, ve]) rfl fun b2 w1 hs1' hb2 hB2 => x r_assign <| xe ?_
  replace h := h.ext hs1'
  refine W_seq <| W_region (by rfl) ?_
  refine x (r_fieldB rfl) <| x (r_loadB hB2 rfl rfl) <| x r_move <| xl rfl <| xf <| (bsf_ok out1_ok h hi hb s hs0 (by omega)).mono ?_
  rintro r2 w2 ⟨hs2, lo, b, rfl, hlo, hl1, hl2⟩
  replace h := h.ext hs2
  replace hB2 := hB2.ext hs2
  refine x r_move <| x (r_extract rfl rfl) <| x (r_extract rfl rfl) <| x r_assign <| x r_assign <| xe ?_
  refine W_seq <| W_region (by rfl) ?_
  refine x (r_fieldB rfl) <| x (r_loadB hB2 rfl rfl) <| x r_move <| x (r_add rfl rfl ⟨by omega, by omega⟩) <| xl rfl <| xf <| (bsf_ok out2_ok h hi hb (s + 1) (by omega) (by omega)).mono ?_
  rintro r3 w3 ⟨hs3, hi', b', rfl, hhi, hh1, hh2⟩
  replace h := h.ext hs3
  replace hB2 := hB2.ext hs3
  refine x r_move <| x (r_extract rfl rfl) <| x (r_extract rfl rfl) <| x r_assign <| x r_assign <| xe ?_
  have hlh : lo ≤ hi' := by
    rcases Nat.lt_or_ge hi' lo with hlt | hge
    · have h1 := hl1 hi' (by omega) hlt
      have h2 := hh2 hi' (by omega) (Nat.le_refl _)
      omega
    · exact hge
  refine W_seq <| W_region (by rfl) ?_
  refine x (r_fieldB rfl) <| x (r_loadB hB2 rfl rfl) <| x r_move <| x r_move <| xslB h rfl rfl rfl hlh hhi fun v' hv' => x r_assign <| xe ?_
  refine W_ret ⟨[v'], ⟨rfl, trivial⟩, (hs1'.trans hs2).trans hs3, ?_⟩
  have hc := cut_filter (fun e : Ed => decide (e.1 = s)) es lo hi' hlh hhi (fun m hm hml => by have := hl1 m hm hml; simp; omega) (fun m hm h1 h2 => by have := hl2 m hm h1; have := hh1 m hm h2; simp; omega) (fun m hm h1 => by have := hh2 m hm h1; simp; omega)
  have hlen : (outE es s).length = hi' - lo := by unfold outE; rw [← hc, List.length_take, List.length_drop]; omega
  show Arr L w3.heap v' (outE es s).length 3 _
  rw [hlen]
  have e1 : (outE es s).flatMap edCells = ((es.flatMap edCells).drop (lo * 3)).take ((hi' - lo) * 3) := by
    unfold outE
    rw [← hc]
    have key : ∀ (l : List Ed) (k : Nat), (l.flatMap edCells).drop (k * 3) = (l.drop k).flatMap edCells := by
      intro l
      induction l with
      | nil => intro k; simp
      | cons a l ih => intro k; cases k with
        | zero => simp
        | succ k => simp only [List.flatMap_cons, List.drop_succ_cons, Nat.add_mul, Nat.one_mul]; rw [Nat.add_comm, ← List.drop_drop, show (edCells a ++ l.flatMap edCells).drop 3 = l.flatMap edCells from rfl, ih]
    have key2 : ∀ (l : List Ed) (k : Nat), (l.flatMap edCells).take (k * 3) = (l.take k).flatMap edCells := by
      intro l
      induction l with
      | nil => intro k; simp
      | cons a l ih => intro k; cases k with
        | zero => simp
        | succ k =>
          simp only [List.flatMap_cons, List.take_succ_cons, Nat.add_mul, Nat.one_mul]
          rw [List.take_append, edCells_len, ← ih, List.take_of_length_le (by simp [edCells_len])]
          simp
    rw [key, key2]
  rw [e1]; exact hv'
end Go.Proofs.YtfhgnlkdcdlblaaGreatDoor
