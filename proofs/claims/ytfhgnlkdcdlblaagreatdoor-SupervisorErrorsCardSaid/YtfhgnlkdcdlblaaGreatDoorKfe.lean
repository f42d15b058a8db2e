/- Merged out of 19 texts. -/
import Derived.RangeFuncNested
import Derived.RangeFuncLeaves
import Derived.RangeFuncCalls
import Derived.OrdersIn
import Derived.TacticsIn
import Derived.Test.YtfhgnlkdcdlblaaGreatDoorKfd
/- The logic for code with a range over a function: in a round or not, with the blocks of deferred calls that such loops leave. -/
namespace Go.Lg
open Go.RowKit

abbrev fen (ro : Option Nat) : Fence := { Fence.wide with round := ro }
def coll (ds : List Nat) : List Deferred := ds.map fun D => { target := .collected D, args := #[] }
structure RelG (n : Nat) (ds : List Nat) (a : Act) (f : Fr) : Prop where
  size : a.tmps.size = n
  defers : a.defers = coll ds
  get : ∀ t, a.tmps.getD t undef = f t
theorem RelG.rel {n : Nat} {ds : List Nat} {a : Act} {f : Fr} (h : RelG n ds a f) : Rel n { a with defers := [] } f := ⟨h.size, rfl, h.get⟩
theorem RelG.eval {n : Nat} {ds : List Nat} {a : Act} {f : Fr} (h : RelG n ds a f) : a.eval = ev f := by
  have := h.rel.eval
  rw [← this]; funext x; cases x <;> rfl
theorem RelG.put {n : Nat} {ds : List Nat} {a : Act} {f : Fr} (h : RelG n ds a f) {dst : Option Nat} (hd : ∀ d, dst = some d → d < n) (v : Value) : RelG n ds (a.put dst v) (putF f dst v) := by
  have := h.rel.put hd v
  cases dst with
  | none => exact h
  | some d => exact ⟨this.size, h.defers, this.get⟩
def wrsG : Code → Nat → Bool
  | .region _ ops _, t => wrsOps ops.toList t
  | .seq a b, t => wrsG a t || wrsG b t
  | .cond _ a b, t => wrsG a t || wrsG b t
  | .block _ a, t => wrsG a t
  | .loop a, t => wrsG a t
  | .skip, _ | .exit _, _ | .label _, _ | .goto _, _ | .ret, _ | .rangeFunc .., _ => false
  | _, _ => true
def wrG (D : List (Nat × Nat)) : Code → Bool
  | .region _ ops _ => wrOps D ops.toList
  | .seq a b => wrG D a && wrG D b
  | .cond _ a b => wrG D a && wrG D b
  | .block _ a => wrG D a
  | .loop a => wrG D a
  | .skip | .exit _ | .label _ | .goto _ | .ret | .rangeFunc .. => true
  | _ => false
theorem wrsG_of {D : List (Nat × Nat)} {t : Nat} (ht : memR D t = false) : ∀ c : Code, wrG D c = true → wrsG c t = false
  | .region _ ops _, h => wrsOps_of h ht
  | .seq a b, h => by simp only [wrG, Bool.and_eq_true] at h; simp [wrsG, wrsG_of ht a h.1, wrsG_of ht b h.2]
  | .cond _ a b, h => by simp only [wrG, Bool.and_eq_true] at h; simp [wrsG, wrsG_of ht a h.1, wrsG_of ht b h.2]
  | .block _ a, h => wrsG_of ht a (by simpa [wrG] using h)
  | .loop a, h => wrsG_of ht a (by simpa [wrG] using h)
  | .skip, _ => rfl
  | .exit _, _ => rfl
  | .label _, _ => rfl
  | .goto _, _ => rfl
  | .ret, _ => rfl
  | .rangeFunc .., _ => rfl
  | .scope _, h => by simp [wrG] at h
  | .refuse _, h => by simp [wrG] at h

def WG (ro : Option Nat) (m : Nat) (P : Program) (n : Nat) (c : Code) (Q : Exit → List Nat → Fr → World → Prop) (ds : List Nat) (f : Fr) (w : World) : Prop :=
  ∀ a, RelG n ds a f → c.wpIn (fen ro) m P (fun e a' w' => ∃ ds' f', RelG n ds' a' f' ∧ (∀ t, wrsG c t = false → f' t = f t) ∧ Q e ds' f' w') a w
def thnG (K : List Nat → Fr → World → Prop) (Q : Exit → List Nat → Fr → World → Prop) : Exit → List Nat → Fr → World → Prop
  | .normal, ds, f, w => K ds f w
  | e, ds, f, w => Q e ds f w
def blkG (id : Nat) (Q : Exit → List Nat → Fr → World → Prop) : Exit → List Nat → Fr → World → Prop
  | .exit i, ds, f, w => bif Nat.beq i id then Q .normal ds f w else Q (.exit i) ds f w
  | e, ds, f, w => Q e ds f w
section
variable {ro : Option Nat} {m : Nat} {P : Program} {n : Nat} {Q : Exit → List Nat → Fr → World → Prop} {ds : List Nat} {f : Fr} {w : World}
theorem WG.mono {c : Code} {Q' : Exit → List Nat → Fr → World → Prop} (h : WG ro m P n c Q ds f w) (hq : ∀ e ds f w, Q e ds f w → Q' e ds f w) : WG ro m P n c Q' ds f w :=
  fun a ha => wpIn_mono (h a ha) fun _ _ _ ⟨ds', f', h1, h2, h3⟩ => ⟨ds', f', h1, h2, hq _ _ _ _ h3⟩
theorem WG.keeps {c : Code} (h : WG ro m P n c Q ds f w) : WG ro m P n c (fun e ds' f' w' => (∀ t, wrsG c t = false → f' t = f t) ∧ Q e ds' f' w') ds f w :=
  fun a ha => wpIn_mono (h a ha) fun _ _ _ ⟨ds', f', h1, h2, h3⟩ => ⟨ds', f', h1, h2, h2, h3⟩
theorem G_skip (h : Q .normal ds f w) : WG ro m P n .skip Q ds f w := fun _ ha => wpIn_skip ⟨ds, f, ha, fun _ _ => rfl, h⟩
theorem G_exit {i : Nat} (h : Q (.exit i) ds f w) : WG ro m P n (.exit i) Q ds f w := fun _ ha => wpIn_exit ⟨ds, f, ha, fun _ _ => rfl, h⟩
theorem G_ret (h : Q .ret ds f w) : WG ro m P n .ret Q ds f w := fun _ ha => wpIn_ret ⟨ds, f, ha, fun _ _ => rfl, h⟩
theorem G_seq {x y : Code} (h : WG ro m P n x (thnG (fun ds f w => WG ro m P n y Q ds f w) Q) ds f w) : WG ro m P n (.seq x y) Q ds f w := by
  intro a ha
  refine wpIn_seq (wpIn_mono (h a ha) ?_)
  rintro e a' w' ⟨ds', f', h1, h2, h3⟩
  have k1 : ∀ t, wrsG (.seq x y) t = false → f' t = f t := fun t ht => h2 t (by simp only [wrsG, Bool.or_eq_false_iff] at ht; exact ht.1)
  cases e with
  | normal =>
    refine wpIn_mono (h3 a' h1) fun _ _ _ ⟨ds'', f'', g1, g2, g3⟩ => ⟨ds'', f'', g1, fun t ht => (g2 t ?_).trans (k1 t ht), g3⟩
    simp only [wrsG, Bool.or_eq_false_iff] at ht; exact ht.2
  | exit id => exact ⟨ds', f', h1, k1, h3⟩
  | goto l => exact ⟨ds', f', h1, k1, h3⟩
  | ret => exact ⟨ds', f', h1, k1, h3⟩
  | panic ch => exact ⟨ds', f', h1, k1, h3⟩
  | outgrown => exact ⟨ds', f', h1, k1, h3⟩
theorem G_cut {α : Type} {x y : Code} (D : List (Nat × Nat)) (S : α → List (Nat × Value)) (I : α → List Nat → World → Prop) (hD : wrG D x = true)
    (h1 : WG ro m P n x (thnG (fun ds' f' w' => ∃ z, Slots f' (S z) ∧ I z ds' w') Q) ds f w)
    (h2 : ∀ z g ds' w', I z ds' w' → WG ro m P n y Q ds' (updS (S z) (mix D f g)) w') : WG ro m P n (.seq x y) Q ds f w := by
  refine G_seq (h1.keeps.mono ?_)
  rintro e ds' f' w' ⟨hk, hq⟩
  cases e with
  | normal =>
    obtain ⟨z, hs, hi⟩ := hq
    have h3 := h2 z f' ds' w' hi
    rw [mix_of (fun t ht => hk t (wrsG_of ht x hD)), updS_self hs] at h3
    exact h3
  | exit id => exact hq
  | goto l => exact hq
  | ret => exact hq
  | panic ch => exact hq
  | outgrown => exact hq
theorem G_cond {c : Operand} {x y : Code} {t : Bool} (hc : ev f c = .bool t) (ht : t = true → WG ro m P n x Q ds f w) (hf : t = false → WG ro m P n y Q ds f w) :
    WG ro m P n (.cond c x y) Q ds f w := by
  intro a ha
  have hc' : a.eval c = .bool t := by rw [ha.eval]; exact hc
  refine wpIn_cond_split hc' (fun e => wpIn_mono (ht e a ha) ?_) (fun e => wpIn_mono (hf e a ha) ?_) <;>
    (rintro e a' w' ⟨ds', f', h1, h2, h3⟩
     refine ⟨ds', f', h1, fun t ht => h2 t ?_, h3⟩
     simp only [wrsG, Bool.or_eq_false_iff] at ht
     first | exact ht.1 | exact ht.2)
theorem G_if {c : Operand} {x y : Code} {p : Prop} [Decidable p] (hc : ev f c = .bool (decide p)) (ht : p → WG ro m P n x Q ds f w) (hf : ¬ p → WG ro m P n y Q ds f w) :
    WG ro m P n (.cond c x y) Q ds f w :=
  G_cond hc (fun e => ht (of_decide_eq_true e)) (fun e => hf (of_decide_eq_false e))
theorem G_ifn {c : Operand} {x y : Code} {p : Prop} [Decidable p] (hc : ev f c = .bool (decide p)) (hf : ¬ p → WG ro m P n y Q ds f w) (ht : p → WG ro m P n x Q ds f w) :
    WG ro m P n (.cond c x y) Q ds f w := G_if hc ht hf
theorem G_true {c : Operand} {x y : Code} (hc : ev f c = .bool true) (h : WG ro m P n x Q ds f w) : WG ro m P n (.cond c x y) Q ds f w := G_cond hc (fun _ => h) (fun e => by cases e)
theorem G_false {c : Operand} {x y : Code} (hc : ev f c = .bool false) (h : WG ro m P n y Q ds f w) : WG ro m P n (.cond c x y) Q ds f w := G_cond hc (fun e => by cases e) (fun _ => h)
theorem G_block {id : Nat} {c : Code} (h : WG ro m P n c (blkG id Q) ds f w) : WG ro m P n (.block id c) Q ds f w := by
  intro a ha
  refine wpIn_block (wpIn_mono (h a ha) ?_)
  rintro e a' w' ⟨ds', f', h1, h2, h3⟩
  have k1 : ∀ t, wrsG (.block id c) t = false → f' t = f t := fun t ht => h2 t (by simpa [wrsG] using ht)
  cases e with
  | exit i =>
    simp only [Exit.inBlock]
    simp only [blkG] at h3
    by_cases hi : i = id
    · subst hi
      simp only [Nat.beq_refl, cond_true] at h3
      simp only [if_true]
      exact ⟨ds', f', h1, k1, h3⟩
    · have hb : Nat.beq i id = false := by
        cases e : Nat.beq i id with
        | false => rfl
        | true => exact absurd (Nat.eq_of_beq_eq_true e) hi
      rw [hb] at h3
      rw [if_neg hi]
      exact ⟨ds', f', h1, k1, h3⟩
  | normal => exact ⟨ds', f', h1, k1, h3⟩
  | goto l => exact ⟨ds', f', h1, k1, h3⟩
  | ret => exact ⟨ds', f', h1, k1, h3⟩
  | panic ch => exact ⟨ds', f', h1, k1, h3⟩
  | outgrown => exact ⟨ds', f', h1, k1, h3⟩
end

/-! ### Operations -/
def noDef (l : List Oper) : Bool := l.all fun o => match o.op with | .defer _ => false | _ => true
theorem noDef_spec {l : List Oper} (h : noDef l = true) : ∀ o ∈ l, ∀ c, o.op ≠ .defer c := fun o ho c e => by
  have := List.all_eq_true.1 h o ho
  rw [e] at this; cases this
section
variable {ro : Option Nat} {m : Nat} {P : Program} {n : Nat} {ds : List Nat}
theorem XO_wpIn {o : Oper} {a : Act} {f : Fr} {w : World} {K : Fr → World → Prop} {K' : Act → World → Prop} {Q : Exit → Act → World → Prop} (h : RelG n ds a f) (hnd : ∀ c, o.op ≠ .defer c)
    (hK : ∀ v w', K (putF f o.dst v) w' → K' (a.put o.dst v) w') (hx : XO P o f w K) : o.wpIn (fen ro) m P a w K' Q := by
  unfold XO at hx
  refine ⟨fun _ _ => trivial, ?_⟩
  have e : Oper.semAt (fen ro).round a.eval o = execOp (ev f) o := by
    rw [h.eval]
    cases ro with
    | none => rfl
    | some l => exact Oper.semAt_some l _ _ hnd
  rw [e]
  generalize (execOp (ev f) o).run P w = r at hx
  cases r with
  | ok nx w' =>
    cases nx <;> simp only [upF] at hx <;> simp only [Oper.uponIn]
    case value v => exact hK v w' hx
    case skip => exact hK _ w' hx
    case enter g args =>
      refine ⟨fun h => by simp [Fence.wide] at h, ?_⟩
      refine (callsIn_wide (n := m - 1)).2 (Calls.mono hx fun e w'' he => ?_)
      cases e with
      | returned v => exact hK v w'' he
      | panicked c => exact he.elim
      | outgrown => exact he.elim
  | halt x w' => exact hx.elim
theorem wanted_ofG {l : List Oper} {a : Act} {f : Fr} (h : RelG n ds a f) (hn : ∀ o ∈ l, ∀ d, o.dst = some d → d < n) (o : Oper) : Region.wanted o (yielded l.toArray a.tmps) = gdF l f o := wanted_of h.rel hn o
theorem XL_wpIn {Q : Exit → List Nat → Fr → World → Prop} {all : List Oper} (hn : ∀ o ∈ all, ∀ d, o.dst = some d → d < n) (hd : ∀ o ∈ all, ∀ c, o.op ≠ .defer c) (f0 : Fr) :
    ∀ (l : List Oper) (k : Nat) (a : Act) (f : Fr) (w : World), (∀ j, l[j]? = all[k + j]?) → RelG n ds a f → (∀ t, wrsOps all t = false → f t = f0 t) →
      XL P all (fun f w => Q .normal ds f w) l f w →
      wpOpsIn (fen ro) m P all.toArray (fun e a' w' => ∃ ds' f', RelG n ds' a' f' ∧ (∀ t, wrsOps all t = false → f' t = f0 t) ∧ Q e ds' f' w') (List.range' k l.length) a w
  | [], _, a, f, w, _, hr, hk, h => ⟨ds, f, hr, hk, by unfold XL at h; exact h⟩
  | o :: l, k, a, f, w, hl, hr, hk, h => by
    have h0 : all[k]? = some o := by simpa using (hl 0).symm
    have hmem : o ∈ all := List.mem_of_getElem? h0
    have ih := fun a f w => XL_wpIn (Q := Q) hn hd f0 l (k + 1) a f w (fun j => by have := hl (j + 1); simpa [Nat.add_assoc, Nat.add_comm 1 j] using this)
    have next : ∀ v, (∀ t, wrsOps all t = false → putF f o.dst v t = f0 t) := fun v t ht => (putF_keep (wrsOps_mem hmem ht) v).trans (hk t ht)
    simp only [List.length_cons, List.range'_succ, wpOpsIn, List.getElem?_toArray, h0]
    rw [wanted_ofG hr hn o]
    unfold XL at h
    cases hg : gdF all f o with
    | false =>
      rw [hg] at h
      exact ⟨fun _ _ => trivial, ih _ _ _ (hr.put (hn o hmem) _) (next _) h⟩
    | true =>
      rw [hg] at h
      exact XO_wpIn hr (hd o hmem) (fun v w' hx => ih _ _ _ (hr.put (hn o hmem) v) (next v) hx) h
theorem G_region {Q : Exit → List Nat → Fr → World → Prop} {f : Fr} {w : World} {id : Nat} {l : List Oper} (hn : dstOk n l = true) (hd : noDef l = true) (h : XL P l (fun f w => Q .normal ds f w) l f w) : WG ro m P n (.region id l.toArray false) Q ds f w := by
  intro a ha
  refine wpIn_region ?_
  have := XL_wpIn (ro := ro) (m := m) (dstOk_spec hn) (noDef_spec hd) f l 0 a f w (by simp) ha (fun _ _ => rfl) h
  simpa [List.range_eq_range', wrsG] using this
attribute [local semireducible] XA in
theorem XA_wpIn {Q : Exit → Act → World → Prop} {all : List Oper} {C : World → Prop} {K : Fr → World → Prop} (hn : ∀ o ∈ all, ∀ d, o.dst = some d → d < n) (hd : ∀ o ∈ all, ∀ c, o.op ≠ .defer c) (f0 : Fr)
    (hQ : ∀ a f w, RelG n ds a f → (∀ t, wrsOps all t = false → f t = f0 t) → K f w → Q .normal a w) :
    ∀ (k : Nat) (ls : Array Bool) (a : Act) (f : Fr) (w : World), RelG n ds a f → (∀ t, wrsOps all t = false → f t = f0 t) → XA P all C K k ls f w → wpAnyIn (fen ro) m P .any all.toArray Q k ls a w
  | 0, _, a, f, w, hr, hk, h => ⟨h.1, hQ a f w hr hk h.2⟩
  | k + 1, ls, a, f, w, hr, hk, h => by
    refine ⟨fun h0 => hQ a f w hr hk (h.1 h0), fun i hi => ?_⟩
    unfold wpOpIn
    simp only [List.getElem?_toArray]
    cases ho : all[i]? with
    | none =>
      exfalso
      obtain ⟨_, o, hoo, _⟩ := mem_ready.1 hi
      simp [ho] at hoo
    | some o =>
      have hmem : o ∈ all := List.mem_of_getElem? ho
      have h1 := h.2 i hi o ho
      have next : ∀ v, (∀ t, wrsOps all t = false → putF f o.dst v t = f0 t) := fun v t ht => (putF_keep (wrsOps_mem hmem ht) v).trans (hk t ht)
      simp only []
      rw [wanted_ofG hr hn o]
      cases hg : gdF all f o with
      | false =>
        rw [hg] at h1
        exact ⟨fun _ _ => trivial, XA_wpIn hn hd f0 hQ k _ _ _ _ (hr.put (hn o hmem) _) (next _) h1⟩
      | true =>
        rw [hg] at h1
        exact XO_wpIn hr (hd o hmem) (fun v w' hx => XA_wpIn hn hd f0 hQ k _ _ _ _ (hr.put (hn o hmem) v) (next v) hx.2) h1
theorem G_draw {Q : Exit → List Nat → Fr → World → Prop} {f : Fr} {w : World} {all : List Oper} {id : Nat} (C : World → Prop) (pl : List (Nat × Bool)) (hm : P.follows .mixedOrders = true) (hn : dstOk n all = true) (hd : noDef all = true) (hp : planOk all pl = true)
    (hC : C { w with drawn := w.drawn + 1 }) (h : XP P all C (fun f w => Q .normal ds f w) pl f { w with drawn := w.drawn + 1 }) : WG ro m P n (.region id all.toArray true) Q ds f w := by
  intro a ha
  simp only [planOk, Bool.and_eq_true, beq_iff_eq] at hp
  obtain ⟨⟨hs, hl⟩, hp⟩ := hp
  refine wpIn_region_any hm ?_
  have h1 := XA_of_plan hs pl _ _ _ (by simp) (.inl hC) hp h
  rw [hl] at h1
  have h2 := XA_wpIn (ro := ro) (m := m) (n := n) (ds := ds) (Q := fun e a' w' => ∃ ds' f', RelG n ds' a' f' ∧ (∀ t, wrsOps all t = false → f' t = f t) ∧ Q e ds' f' w') (dstOk_spec hn) (noDef_spec hd) f
    (fun a f' w hr hk hq => ⟨ds, f', hr, hk, hq⟩) _ _ a f _ ha (fun _ _ => rfl) h1
  simpa [wrsG] using h2
end

section
variable {ro : Option Nat} {m : Nat} {P : Program} {n : Nat} {Q : Exit → List Nat → Fr → World → Prop} {ds : List Nat} {f : Fr} {w : World}
theorem wpIn_loop_ghost {α : Type} {F : Fence} {c : Code} {Q : Exit → Act → World → Prop} {a : Act} {w : World} (J : α → Act → World → Prop) (μ : α → Nat) (z : α) (h₀ : J z a w)
    (round : ∀ x a w, J x a w → c.wpIn F m P (Exit.then (fun a' w' => ∃ x', μ x' < μ x ∧ J x' a' w') Q) a w) : (Code.loop c).wpIn F m P Q a w := by
  intro b k cs hro hb hr
  have key : ∀ j x a w, μ x = j → J x a w →
      ∃ e a' w', Q e a' w' ∧ ArrivesIn (Machine.fenced P F) P (lone (b.atR a (.code c :: .inLoop c :: k)) cs w) b k cs e a' w' := by
    intro j
    induction j using Nat.strongRecOn with
    | _ j ih =>
      intro x a w hn hJ
      obtain ⟨e, a₁, w₁, hq, harr⟩ := round x a w hJ b (.inLoop c :: k) cs hro hb hr
      cases e with
      | normal =>
        obtain ⟨x', hlt, hJ'⟩ := hq
        obtain ⟨e₂, a₂, w₂, hq₂, harr₂⟩ := ih (μ x') (hn ▸ hlt) x' a₁ w₁ rfl hJ'
        exact ⟨e₂, a₂, w₂, hq₂, .of_steps (StepsIn.trans harr (.one (fenced_calm hb hr rfl) stepR_inLoop)) harr₂⟩
      | exit id => exact ⟨_, a₁, w₁, hq, .pass (x := .inLoop c) rfl (fun _ _ => .inl (by simp)) harr⟩
      | goto l => exact ⟨_, a₁, w₁, hq, .pass (x := .inLoop c) rfl (fun _ _ => .inl (by simp)) harr⟩
      | ret => exact ⟨_, a₁, w₁, hq, .pass (x := .inLoop c) rfl (fun _ _ => .inl (by simp)) harr⟩
      | panic ch => exact ⟨_, a₁, w₁, hq, .pass (x := .inLoop c) rfl (fun _ _ => .inl (by simp)) harr⟩
      | outgrown => exact ⟨_, a₁, w₁, hq, .pass (x := .inLoop c) rfl (fun _ _ => .inl (by simp)) harr⟩
  obtain ⟨e, a', w', hq, harr⟩ := key _ z a w rfl h₀
  exact ⟨e, a', w', hq, .of_steps (.one (fenced_calm hb hr rfl) stepR_loop) harr⟩
theorem G_loop {α : Type} {c : Code} (D : List (Nat × Nat)) (S : α → List (Nat × Value)) (I : α → List Nat → World → Prop) (μ : α → Nat) (hD : wrG D c = true) (z : α)
    (h0 : Slots f (S z)) (hI : I z ds w)
    (round : ∀ x g ds' w', I x ds' w' → WG ro m P n c (thnG (fun ds'' f' w'' => ∃ x', μ x' < μ x ∧ Slots f' (S x') ∧ I x' ds'' w'') Q) ds' (updS (S x) (mix D f g)) w') : WG ro m P n (.loop c) Q ds f w := by
  intro a ha
  refine wpIn_loop_ghost (fun (x : α) a' w' => ∃ ds' f', RelG n ds' a' f' ∧ (∀ t, wrsG c t = false → f' t = f t) ∧ Slots f' (S x) ∧ I x ds' w') μ z ⟨ds, f, ha, fun _ _ => rfl, h0, hI⟩ ?_
  rintro x a' w' ⟨ds', f', h1, h2, h3, h4⟩
  have h5 := round x f' ds' w' h4
  rw [mix_of (fun t ht => h2 t (wrsG_of ht c hD)), updS_self h3] at h5
  refine wpIn_mono (h5 a' h1) ?_
  rintro e a'' w'' ⟨ds'', f'', g1, g2, g3⟩
  have k1 : ∀ t, wrsG c t = false → f'' t = f t := fun t ht => (g2 t ht).trans (h2 t ht)
  have k2 : ∀ t, wrsG (.loop c) t = false → f'' t = f t := fun t ht => k1 t (by simpa [wrsG] using ht)
  cases e with
  | normal => obtain ⟨x', hm, hs, hi⟩ := g3; exact ⟨x', hm, ds'', f'', g1, k1, hs, hi⟩
  | exit id => exact ⟨ds'', f'', g1, k2, g3⟩
  | goto l => exact ⟨ds'', f'', g1, k2, g3⟩
  | ret => exact ⟨ds'', f'', g1, k2, g3⟩
  | panic ch => exact ⟨ds'', f'', g1, k2, g3⟩
  | outgrown => exact ⟨ds'', f'', g1, k2, g3⟩
end

/-! ### The end of a function -/
def rqG (P : Program) (rs : List ResultVar) (R : Value → World → Prop) : Exit → List Nat → Fr → World → Prop
  | .normal, ds, f, w => (∀ D ∈ ds, w.heap[D]? = some (.deferred (some []))) ∧ ds.Nodup ∧ ∃ vs, ∀ w', Step ds w w' → ResOk P f w' rs vs ∧ R (tup vs) w'
  | .ret, ds, f, w => (∀ D ∈ ds, w.heap[D]? = some (.deferred (some []))) ∧ ds.Nodup ∧ ∃ vs, ∀ w', Step ds w w' → ResOk P f w' rs vs ∧ R (tup vs) w'
  | _, _, _, _ => False
theorem Step.putObj (w : World) (D : Nat) (o : Obj) : Step [D] w (w.putObj D o) := ⟨rfl, rfl, rfl, by simp, fun k _ hk => World.putObj_heap_other (fun e => hk (by simp [e]))⟩
theorem leaves_all {F : Fence} {m : Nat} {P : Program} {fn : Func} {tmps : Array Value} {R : Ending → World → Prop} : ∀ (ds : List Nat) (w : World), (∀ D ∈ ds, w.heap[D]? = some (.deferred (some []))) → ds.Nodup →
    (∀ w', Step ds w w' → ∃ v, (results fn tmps).run P w' = .ok v w' ∧ R (.returned v) w') → LeavesInM F m P fn tmps R (coll ds) .returning w
  | [], w, _, _, h => h w (Step.refl _ _)
  | D :: ds, w, hD, hn, h => by
    refine ⟨by simp, .inl ⟨D, _, rfl, run_takeDeferred (hD D List.mem_cons_self), ?_⟩⟩
    have hs := Step.putObj w D (.deferred none)
    have hn' := List.nodup_cons.1 hn
    refine leaves_all ds _ (fun E hE => ?_) hn'.2 (fun w' hw' => h w' ?_)
    · rw [World.putObj_heap_other (fun e => hn'.1 (by rw [← e]; exact hE))]
      exact hD E (List.mem_cons_of_mem _ hE)
    · exact (hs.mono (fun b hb => by simp at hb; simp [hb])).trans' (hw'.mono (fun b hb => List.mem_cons_of_mem _ hb))
theorem Ret.of_G {P : Program} {g : Nat} {fn : Func} {c : Code} {args : List Value} {w : World} {R : Value → World → Prop} {n : Nat} {rs : List ResultVar} (m : Nat)
    (hf : P.funcs[g]? = some fn) (hb : fn.body = some c) (hn : fn.ntmps = n) (hrs : fn.results = rs.toArray) (hl : args.length ≤ n)
    (h : WG none m P n c (rqG P rs R) [] (ent args) w) : Ret P g args w R := by
  unfold Ret
  refine (callsIn_wide (n := m)).1 (callsIn_of_wp_marks hf hb trivial (wpIn_mono (h _ ?_) ?_))
  · refine ⟨by simp [hn]; omega, rfl, fun t => ?_⟩
    have key : ∀ (l : List Value) (t : Nat), l[t]?.getD undef = ent l t := by
      intro l
      induction l with
      | nil => intro t; rfl
      | cons v l ih => intro t; cases t with | zero => rfl | succ t => simpa [ent] using ih t
    rw [← key]
    simp only [Array.getD_eq_getD_getElem?, Array.getElem?_append, List.size_toArray, List.getElem?_toArray]
    by_cases ht : t < args.length
    · simp [ht]
    · simp [ht, Array.getElem?_replicate]; split <;> rfl
  · rintro e a' w' ⟨ds', f', h1, _, h3⟩
    have fin : ((∀ D ∈ ds', w'.heap[D]? = some (.deferred (some []))) ∧ ds'.Nodup ∧ ∃ vs, ∀ w'', Step ds' w' w'' → ResOk P f' w'' rs vs ∧ R (tup vs) w'') →
        LeavesInM Fence.wide m P fn a'.tmps (fun e w' => match e with | .returned v => R v w' | _ => False) a'.defers .returning w' := by
      rintro ⟨hd, hnd, vs, hv⟩
      rw [h1.defers]
      refine leaves_all ds' w' hd hnd fun w'' hw => ⟨tup vs, ?_, (hv w'' hw).2⟩
      simp only [results, hrs, List.mapM_toArray, Sem.run_bind, Sem.run_map]
      rw [run_results (a := { a' with defers := [] }) h1.rel _ (fun _ => rfl) (fun _ _ => rfl) rs vs (hv w'' hw).1]
      cases vs with
      | nil => rfl
      | cons v vs => cases vs with | nil => rfl | cons u us => rfl
    cases e with
    | normal => exact fin h3
    | ret => exact fin h3
    | exit id => exact h3.elim
    | goto l => exact h3.elim
    | panic c => exact h3.elim
    | outgrown => exact h3.elim
attribute [irreducible] WG
end Go.Lg
/- Contracts: alphabet.CheckSet, reach.checkSet, checkStates, controllable.steps. -/
namespace Go.Proofs.YtfhgnlkdcdlblaaGreatDoor
open Go.Lg
theorem rcheckSet_ok {L : List Nat} {w : World} {v : Value} {l : List Int} (h : Ints L w.heap v l) (n : Int) :
    Ret Tryz.prog 67 [v, .int .i64 n] w fun r w' => r = .int .i64 (ckS n none l) ∧ w' = w := by
  have hle := h.le
  refine Ret.of_W Tryz.func67 rfl Tryz.ntmps67 Tryz.results67 (by simp) ?_
  refine W_seq <| W_region (by rfl) ?_
  refine x r_assign <| xe ?_
  refine W_seq <| W_seq <| W_region (by rfl) ?_
  refine x r_move <| x (r_lenA h rfl) <| x r_move <| xe ?_
  refine W_block <| W_loop (α := Nat) [(4, 6), (9, 34)] (fun k => [(9, .int .i64 k)]) (fun k w' => w' = w ∧ k ≤ l.length ∧ ckS n (pv l k) (l.drop k) = ckS n none l) (fun k => l.length - k) (by rfl) 0 ⟨rfl, trivial⟩ ⟨rfl, Nat.zero_le _, rfl⟩ ?_
  rintro k g w1 ⟨rfl, hk, hm⟩
  refine W_seq <| W_region (by rfl) ?_
  refine x (r_lss rfl rfl) <| xe ?_
  refine W_seq <| W_ifn rfl (fun h10 => ?_) (fun h10 => ?_)
  · refine W_exit ?_
    refine W_seq <| W_region (by rfl) ?_
    refine x r_assign <| xe ?_
    refine W_ret ⟨[.int .i64 0], ⟨rfl, trivial⟩, ?_, rfl⟩
    rw [← hm, List.drop_of_length_le (by omega)]; rfl
  have hlt : k < l.length := by omega
  have hd := drop_cons hlt
  rw [hd, ckS] at hm
  refine W_skip ?_
  refine W_seq <| W_block <| W_seq <| W_region (by rfl) ?_
  refine x r_move <| xii h rfl rfl hlt fun a12 h12 => x (r_loadA h12 rfl) <| x r_assign <| x r_assign <| xe ?_
  refine W_block <| W_cut (α := Bool) [(14, 21)] (fun z => [(14, .bool z)]) (fun z w' => w' = w1 ∧ z = decide (l[k] < 0 ∨ n ≤ l[k])) (by rfl) ?_ ?_
  · refine W_region (by rfl) ?_
    refine x r_move <| xb (r_lss rfl rfl) (fun h16 => ?_) (fun h16 => ?_)
    · refine x r_move <| xs rfl <| xs rfl <| xs rfl <| x (r_pick rfl) <| x r_assign <| xe ?_
      exact ⟨true, ⟨rfl, trivial⟩, rfl, by simp [h16]⟩
    refine x r_move <| x r_move <| x r_move <| x (r_geq rfl rfl) <| x (r_pick rfl) <| x r_assign <| xe ?_
    exact ⟨_, ⟨rfl, trivial⟩, rfl, by simp [h16]⟩
  rintro z g w2 ⟨rfl, rfl⟩
  refine W_if rfl (fun h14 => ?_) (fun h14 => ?_)
  · refine W_seq <| W_region (by rfl) ?_
    refine x r_assign <| xe ?_
    refine W_ret ⟨[.int .i64 2], ⟨rfl, trivial⟩, ?_, rfl⟩
    rw [← hm, if_pos h14]; rfl
  rw [if_neg h14] at hm
  refine W_cut (α := Bool) [(22, 33)] (fun z => [(22, .bool z)]) (fun z w' => w' = w2 ∧ z = leO (pv l k) l[k]) (by rfl) ?_ ?_
  · refine W_region (by rfl) ?_
    refine x r_move <| xb (r_gtr rfl rfl) (fun h24 => ?_) (fun h24 => ?_)
    · have hk1 : ((k : Int) - 1) = ((k - 1 : Nat) : Int) := by omega
      refine x r_move <| x r_move <| x r_move <| x r_move <| x (r_sub rfl rfl ⟨by omega, by omega⟩) <| xii (i := k - 1) h rfl (by show Value.int _ ((k : Int) - 1) = _; rw [hk1]) (by omega) fun a30 h30 => x (r_loadA h30 rfl) <| x (r_leq rfl rfl) <| x (r_pick rfl) <| x r_assign <| xe ?_
      refine ⟨_, ⟨rfl, trivial⟩, rfl, ?_⟩
      have : pv l k = some l[k - 1] := by
        have h0 : k ≠ 0 := by omega
        simp [pv, h0, show k - 1 < l.length by omega]
      rw [this]; rfl
    refine x r_move <| xs rfl <| xs rfl <| xs rfl <| xs rfl <| xs rfl <| xs rfl <| xs rfl <| x (r_pick rfl) <| x r_assign <| xe ?_
    have h0 : k = 0 := by omega
    exact ⟨false, ⟨rfl, trivial⟩, rfl, by simp [pv, h0, leO]⟩
  rintro z g w3 ⟨rfl, rfl⟩
  refine W_cond rfl (fun h22 => ?_) (fun h22 => ?_)
  · refine W_seq <| W_region (by rfl) ?_
    refine x r_assign <| xe ?_
    refine W_ret ⟨[.int .i64 5], ⟨rfl, trivial⟩, ?_, rfl⟩
    rw [← hm, if_pos h22]; rfl
  rw [if_neg (by simp [h22])] at hm
  refine W_skip ?_
  refine W_region (by rfl) ?_
  refine x (r_add rfl rfl ⟨by omega, by omega⟩) <| x r_move <| xe ?_
  exact ⟨k + 1, by omega, ⟨rfl, trivial⟩, rfl, by omega, by rw [pv_succ hlt]; exact hm⟩

theorem CheckSet_ok {L : List Nat} {w : World} {v : Value} {l : List Int} (h : Ints L w.heap v l) (n : Int) :
    Ret Tryz.prog 24 [v, .int .i64 n] w fun r w' => r = .int .i64 (ckS n none l) ∧ w' = w := by
  have hle := h.le
  refine Ret.of_W Tryz.func24 rfl Tryz.ntmps24 Tryz.results24 (by simp) ?_
  refine W_seq <| W_region (by rfl) ?_
  refine x r_assign <| xe ?_
  refine W_seq <| W_seq <| W_region (by rfl) ?_
  refine x r_move <| x (r_lenA h rfl) <| x r_move <| xe ?_
  refine W_block <| W_loop (α := Nat) [(4, 6), (9, 32)] (fun k => [(9, .int .i64 k)]) (fun k w' => w' = w ∧ k ≤ l.length ∧ ckS n (pv l k) (l.drop k) = ckS n none l) (fun k => l.length - k) (by rfl) 0 ⟨rfl, trivial⟩ ⟨rfl, Nat.zero_le _, rfl⟩ ?_
  rintro k g w1 ⟨rfl, hk, hm⟩
  refine W_seq <| W_region (by rfl) ?_
  refine x (r_lss rfl rfl) <| xe ?_
  refine W_seq <| W_ifn rfl (fun h10 => ?_) (fun h10 => ?_)
  · refine W_exit ?_
    refine W_seq <| W_region (by rfl) ?_
    refine x r_assign <| xe ?_
    refine W_ret ⟨[.int .i64 0], ⟨rfl, trivial⟩, ?_, rfl⟩
    rw [← hm, List.drop_of_length_le (by omega)]; rfl
  have hlt : k < l.length := by omega
  have hd := drop_cons hlt
  rw [hd, ckS] at hm
  refine W_skip ?_
  refine W_seq <| W_block <| W_seq <| W_region (by rfl) ?_
  refine x r_move <| xii h rfl rfl hlt fun a12 h12 => x (r_loadA h12 rfl) <| x r_assign <| x r_assign <| xe ?_
  refine W_seq <| W_cut (α := Bool) [(14, 20)] (fun z => [(20, .bool z)]) (fun z w' => w' = w1 ∧ z = decide (l[k] < 0 ∨ n ≤ l[k])) (by rfl) ?_ ?_
  · refine W_region (by rfl) ?_
    refine x r_move <| xb (r_lss rfl rfl) (fun h16 => ?_) (fun h16 => ?_)
    · refine x r_move <| xs rfl <| xs rfl <| xs rfl <| x (r_pick rfl) <| xe ?_
      exact ⟨true, ⟨rfl, trivial⟩, rfl, by simp [h16]⟩
    refine x r_move <| x r_move <| x r_move <| x (r_geq rfl rfl) <| x (r_pick rfl) <| xe ?_
    exact ⟨_, ⟨rfl, trivial⟩, rfl, by simp [h16]⟩
  rintro z g w2 ⟨rfl, rfl⟩
  refine W_if rfl (fun h14 => ?_) (fun h14 => ?_)
  · refine W_seq <| W_region (by rfl) ?_
    refine x r_assign <| xe ?_
    refine W_ret ⟨[.int .i64 2], ⟨rfl, trivial⟩, ?_, rfl⟩
    rw [← hm, if_pos h14]; rfl
  rw [if_neg h14] at hm
  refine W_skip ?_
  refine W_cut (α := Bool) [(21, 31)] (fun z => [(31, .bool z)]) (fun z w' => w' = w2 ∧ z = leO (pv l k) l[k]) (by rfl) ?_ ?_
  · refine W_region (by rfl) ?_
    refine x r_move <| xb (r_gtr rfl rfl) (fun h24 => ?_) (fun h24 => ?_)
    · have hk1 : ((k : Int) - 1) = ((k - 1 : Nat) : Int) := by omega
      refine x r_move <| x r_move <| x r_move <| x r_move <| x (r_sub rfl rfl ⟨by omega, by omega⟩) <| xii (i := k - 1) h rfl (by show Value.int _ ((k : Int) - 1) = _; rw [hk1]) (by omega) fun a30 h30 => x (r_loadA h30 rfl) <| x (r_leq rfl rfl) <| x (r_pick rfl) <| xe ?_
      refine ⟨_, ⟨rfl, trivial⟩, rfl, ?_⟩
      have : pv l k = some l[k - 1] := by
        have h0 : k ≠ 0 := by omega
        simp [pv, h0, show k - 1 < l.length by omega]
      rw [this]; rfl
    refine x r_move <| xs rfl <| xs rfl <| xs rfl <| xs rfl <| xs rfl <| xs rfl <| xs rfl <| x (r_pick rfl) <| xe ?_
    have h0 : k = 0 := by omega
    exact ⟨false, ⟨rfl, trivial⟩, rfl, by simp [pv, h0, leO]⟩
  rintro z g w3 ⟨rfl, rfl⟩
  refine W_cond rfl (fun h22 => ?_) (fun h22 => ?_)
  · refine W_seq <| W_region (by rfl) ?_
    refine x r_assign <| xe ?_
    refine W_ret ⟨[.int .i64 5], ⟨rfl, trivial⟩, ?_, rfl⟩
    rw [← hm, if_pos h22]; rfl
  rw [if_neg (by simp [h22])] at hm
  refine W_skip ?_
  refine W_region (by rfl) ?_
  refine x (r_add rfl rfl ⟨by omega, by omega⟩) <| x r_move <| xe ?_
  exact ⟨k + 1, by omega, ⟨rfl, trivial⟩, rfl, by omega, by rw [pv_succ hlt]; exact hm⟩

theorem checkStates_ok {L : List Nat} {w : World} {va vm ve v : Value} {a : Aut} {l : List Int} (h : Ints L w.heap v l) :
    Ret Tryz.prog 39 [.agg #[va, .int .i64 a.st, vm, ve], v] w fun r w' => r = .int .i64 (ckS a.st none l) ∧ Step [] w w' := by
  refine Ret.of_W Tryz.func39 rfl Tryz.ntmps39 Tryz.results39 (by simp) ?_
  refine W_seq <| W_region (by rfl) ?_
  refine xl rfl <| o_box (us := [va, .int .i64 a.st, vm, ve]) rfl fun b2 w1 hs1 hb2 hB2 => x r_assign <| xe ?_
  refine W_seq <| W_region (by rfl) ?_
  refine x r_move <| x (r_fieldB rfl) <| x (r_loadB hB2 rfl rfl) <| xl rfl <| xf <| (rcheckSet_ok (h.ext hs1) a.st).mono ?_
  rintro r2 w2 ⟨rfl, rfl⟩
  refine x r_assign <| xe ?_
  exact W_ret ⟨[.int .i64 (ckS a.st none l)], ⟨rfl, trivial⟩, rfl, hs1⟩
theorem csteps_ok {L : List Nat} {w : World} {va vm ve : Value} {st : Int} {es : List Ed} (h : Eds L w.heap ve es) :
    Ret Tryz.prog 65 [.agg #[va, .int .i64 st, vm, ve]] w fun r w' => Step [] w w' ∧ ∃ b, r = .map (some b) ∧ w.heap.size ≤ b ∧ MapB kPair w'.heap b (edMap [] es) := by
  have hle := h.le
  refine Ret.of_W Tryz.func65 rfl Tryz.ntmps65 Tryz.results65 (by simp) ?_
  refine W_seq <| W_region (by rfl) ?_
  refine xl rfl <| o_box (us := [va, .int .i64 st, vm, ve]) rfl fun b1 w1 hs1 hb1 hB1 => x r_assign <| xe ?_
  refine W_seq <| W_region (by rfl) ?_
  refine xl rfl <| o_makeMap kPair fun b6 w2 hs2 hb6 hm6 => x r_assign <| xe ?_
  refine W_seq <| W_seq <| W_region (by rfl) ?_
  refine x (r_fieldB rfl) <| x (r_loadB (hB1.ext hs2) rfl rfl) <| x (r_lenA h rfl) <| x r_move <| xe ?_
  have hz1 := hs1.size
  have hz2 := hs2.size
  have hl6 := hm6.lt
  have hE : Eds [b6] w2.heap ve es := (h.up (L' := [b6]) (fun b hb => .inr (by simp at hb; omega))).ext (hs1.trans hs2)
  refine W_block <| W_loop (α := Nat) [(5, 5), (10, 22)] (fun z => [(10, .int .i64 z)]) (fun z w' => z ≤ es.length ∧ Step [b6] w2 w' ∧ MapB kPair w'.heap b6 (edMap [] (es.take z))) (fun z => es.length - z) (by rfl) 0 ⟨rfl, trivial⟩
    ⟨Nat.zero_le _, Step.refl _ _, hm6⟩ ?_
  rintro k g w3 ⟨hk, hs3, hm3⟩
  have hz3 := hs3.size
  refine W_seq <| W_region (by rfl) ?_
  refine x (r_lss rfl rfl) <| xe ?_
  refine W_seq <| W_ifn rfl (fun h11 => ?_) (fun h11 => ?_)
  · refine W_exit ?_
    refine W_seq <| W_region (by rfl) ?_
    refine x r_move <| x r_assign <| xe ?_
    rw [List.take_of_length_le (by omega)] at hm3
    refine W_ret ⟨[.map (some b6)], ⟨rfl, trivial⟩, (hs1.trans hs2).then1 hs3 (by omega), b6, rfl, by omega, hm3⟩
  have hlt : k < es.length := by omega
  refine W_skip ?_
  refine W_seq <| W_block <| W_seq <| W_region (by rfl) ?_
  refine xie (hE.st hs3) rfl rfl hlt fun a12 h12 => x (r_loadsA h12 rfl rfl) <| xl rfl <| o_alloc (us := [.int .i64 0, .int .i64 0, .int .i64 0]) rfl fun b5 w4 hs4 hb5 hB5 => xl rfl <| o_stores (us := edCells es[k]) hB5 rfl rfl rfl rfl ⟨rfl, rfl, rfl, trivial⟩ fun w5 hs5 hB5 =>
    xe ?_
  have hs35 : Step [] w3 w5 := hs4.then1 hs5 hb5
  refine W_region (by rfl) ?_
  refine x r_move <| x (r_fieldB rfl) <| x (r_loadB hB5 rfl rfl) <| x (r_fieldB rfl) <| x (r_loadB hB5 rfl rfl) <| x (r_build ⟨rfl, rfl, trivial⟩) <| x (r_fieldB rfl) <|
    x (r_loadB hB5 rfl rfl) <| xl rfl <| o_update (k := (es[k].1, es[k].2.1)) (hm3.ext hs35) rfl rfl fun w6 hs6 hm6 => xe ?_
  refine W_region (by rfl) ?_
  refine x (r_add rfl rfl ⟨by omega, by omega⟩) <| x r_move <| xe ?_
  refine ⟨k + 1, by omega, ⟨rfl, trivial⟩, hlt, (hs3.trans hs35).trans' hs6, ?_⟩
  rw [edMap_take hlt]; exact hm6
end Go.Proofs.YtfhgnlkdcdlblaaGreatDoor
/- Contracts: reach.flags. -/
namespace Go.Proofs.YtfhgnlkdcdlblaaGreatDoor
open Go.Lg

def flg (n : Nat) (l : List Int) : List Bool := (List.range n).map fun i : Nat => decide ((i : Int) ∈ l)
theorem flg_len (n : Nat) (l : List Int) : (flg n l).length = n := by simp [flg]
theorem flg_get {n : Nat} {l : List Int} {i : Nat} (h : i < (flg n l).length) : (flg n l)[i]'h = decide ((i : Int) ∈ l) := by simp [flg]
theorem flg_set {n : Nat} {l : List Int} {x : Int} (h0 : 0 ≤ x) : (flg n l).set x.toNat true = flg n (l ++ [x]) := by
  apply List.ext_getElem
  · simp [flg]
  · intro i h2 h3
    rw [List.getElem_set, flg_get h3]
    by_cases e : x.toNat = i
    · have : (i : Int) = x := by omega
      rw [if_pos e, this]; simp
    · have : (i : Int) ≠ x := by omega
      rw [if_neg e, flg_get]
      simp [this]
theorem flags_ok {L : List Nat} {w : World} {va vm ve v : Value} {a : Aut} {l : List Int} {n : Nat} (h : Ints L w.heap v l) (hn : a.st = (n : Int)) (hst1 : a.st ≤ 4096) (hl : ∀ s ∈ l, 0 ≤ s ∧ s < a.st) :
    Ret Tryz.prog 40 [.agg #[va, .int .i64 a.st, vm, ve], v] w fun r w' => Step [] w w' ∧ ∃ b, r = .slice (some ⟨b, 0, none⟩) n n ∧ w.heap.size ≤ b ∧ Blk w'.heap b 4 ((flg n l).map Value.bool) := by
  have hle := h.le
  refine Ret.of_W Tryz.func40 rfl Tryz.ntmps40 Tryz.results40 (by simp) ?_
  refine W_seq <| W_region (by rfl) ?_
  refine xl rfl <| o_box (us := [va, .int .i64 a.st, vm, ve]) rfl fun b2 w1 hs1 hb2 hB2 => x r_assign <| xe ?_
  refine W_seq <| W_region (by rfl) ?_
  refine x (r_fieldB rfl) <| x (r_loadB hB2 rfl rfl) <| xl rfl <| o_make (n := n) (congrArg (Value.int .i64) hn) (congrArg (Value.int .i64) hn) (by omega) fun b10 w2 hs2 hb10 hB10 => x r_assign <| xe ?_
  have hs12 := hs1.trans hs2
  have hB0 : Blk w2.heap b10 4 ((flg n (l.take 0)).map Value.bool) := by
    have e : (List.replicate n (Value.bool false).cells.toList).flatten = (flg n (l.take 0)).map Value.bool := by
      simp only [flg, List.take_zero, List.not_mem_nil, decide_false, List.map_map]
      apply List.ext_getElem
      · simp [Value.cells]
      · intro i h1 h2
        simp [Value.cells]
    rw [← e]; exact hB10
  refine W_seq <| W_seq <| W_region (by rfl) ?_
  refine x r_move <| x (r_lenA (h.ext hs12) rfl) <| x r_move <| xe ?_
  refine W_block <| W_loop (α := Nat) [(7, 7), (13, 20)] (fun z => [(13, .int .i64 z)]) (fun z w' => z ≤ l.length ∧ Step [] w1 w' ∧ Blk w'.heap b10 4 ((flg n (l.take z)).map Value.bool)) (fun z => l.length - z) (by rfl) 0 ⟨rfl, trivial⟩ ⟨Nat.zero_le _, hs2, hB0⟩ ?_
  rintro k g w3 ⟨hk, hs3, hB3⟩
  refine W_seq <| W_region (by rfl) ?_
  refine x (r_lss rfl rfl) <| xe ?_
  refine W_seq <| W_ifn rfl (fun h14 => ?_) (fun h14 => ?_)
  · refine W_exit ?_
    have hke : l.length ≤ k := by have h15 : ¬ (k : Int) < (l.length : Int) := h14; omega
    rw [List.take_of_length_le hke] at hB3
    refine W_seq <| W_region (by rfl) ?_
    refine x r_move <| x r_assign <| xe ?_
    have hz1 := hs1.size
    exact W_ret ⟨[.slice (some ⟨b10, 0, none⟩) n n], ⟨rfl, trivial⟩, hs1.trans hs3, b10, rfl, by omega, hB3⟩
  have hlt : k < l.length := by have h15 : (k : Int) < (l.length : Int) := h14; omega
  have hx := hl _ (List.getElem_mem hlt)
  have htk : l.take (k + 1) = l.take k ++ [l[k]'hlt] := List.take_succ_eq_append_getElem hlt
  refine exE (l[k]'hlt) fun s hs => ?_
  rw [hs] at hx htk
  have hsn : s = (s.toNat : Int) := by omega
  have hset := flg_set (n := n) (l := l.take k) hx.1
  refine W_skip ?_
  refine W_seq <| W_block <| W_seq <| W_region (by rfl) ?_
  refine xii (i := k) ((h.ext hs1).ext hs3) rfl rfl hlt fun a15 h15 => ?_
  rw [hs] at h15
  refine x (r_loadA h15 rfl) <| x r_assign <| xe ?_
  refine W_region (by rfl) ?_
  refine x r_move <| x r_move <| x (r_indexB (i := s.toNat) rfl (congrArg (Value.int .i64) hsn) (by omega)) <| xl rfl <| o_store (j := 0 + s.toNat * 1) (u := .bool true) hB3 rfl rfl (by rw [List.length_map, flg_len]; omega) rfl fun w4 hs4 hB4 => xe ?_
  have hB4' : Blk w4.heap b10 4 ((flg n (l.take (k + 1))).map Value.bool) := by
    rw [htk, ← hset, List.map_set]
    simpa using hB4
  refine W_region (by rfl) ?_
  refine x (r_add rfl rfl ⟨by omega, by omega⟩) <| x r_move <| xe ?_
  exact ⟨k + 1, by omega, ⟨rfl, trivial⟩, hlt, hs3.then1 hs4 hb10, hB4'⟩
end Go.Proofs.YtfhgnlkdcdlblaaGreatDoor
/- Contract: slices.Reverse of ints, on a slice of the call's own. -/
namespace Go.Proofs.YtfhgnlkdcdlblaaGreatDoor
open Go.Lg

/-- What is turned when i pairs are done. -/
def Rv (l : List Int) (i : Nat) (li : List Int) : Prop := ∃ h : li.length = l.length, ∀ k (hk : k < l.length), li[k]'(by omega) = if k < i ∨ l.length ≤ k + i then l[l.length - 1 - k]'(by omega) else l[k]'hk
theorem Rv.start (l : List Int) : Rv l 0 l := ⟨rfl, fun k hk => by rw [if_neg (by omega)]⟩
theorem Rv.next {l li : List Int} {i : Nat} (h : Rv l i li) (hi : i < l.length - 1 - i) : Rv l (i + 1) ((li.set i (l[l.length - 1 - i]'(by omega))).set (l.length - 1 - i) (l[i]'(by omega))) := by
  obtain ⟨h1, h2⟩ := h
  refine ⟨by simp [h1], fun k hk => ?_⟩
  rw [List.getElem_set, List.getElem_set]
  by_cases e1 : l.length - 1 - i = k
  · rw [if_pos e1, if_pos (by omega)]
    congr 1; omega
  · rw [if_neg e1]
    by_cases e2 : i = k
    · rw [if_pos e2, if_pos (by omega)]
      subst e2; rfl
    · rw [if_neg e2, h2 k hk]
      by_cases e3 : k < i ∨ l.length ≤ k + i
      · rw [if_pos e3, if_pos (by omega)]
      · rw [if_neg e3, if_neg (by omega)]
theorem Rv.fin {l li : List Int} {i : Nat} (h : Rv l i li) (hi : l.length - 1 - i ≤ i) (hle : 2 * i ≤ l.length) : li = l.reverse := by
  obtain ⟨h1, h2⟩ := h
  apply List.ext_getElem
  · simp [h1]
  · intro k hk hk'
    have hk2 : k < l.length := by omega
    rw [h2 k hk2, List.getElem_reverse]
    by_cases e : k < i ∨ l.length ≤ k + i
    · rw [if_pos e]
    · rw [if_neg e]
      congr 1; omega
theorem Rv.at_i {l li : List Int} {i : Nat} (h : Rv l i li) (hi : i < l.length - 1 - i) : ∃ (h0 : i < li.length) (h3 : l.length - 1 - i < li.length), li[i]'h0 = l[i]'(by omega) ∧ li[l.length - 1 - i]'h3 = l[l.length - 1 - i]'(by omega) := by
  obtain ⟨h1, h2⟩ := h
  refine ⟨by omega, by omega, ?_, ?_⟩
  · rw [h2 i (by omega), if_neg (by omega)]
  · rw [h2 _ (by omega), if_neg (by omega)]

theorem Reverse_ok {w : World} {base : Nat} {v : Value} {l : List Int} (h : IntsO 3 base w v l) (hle : l.length ≤ 1099511627776) :
    Ret Tryz.prog 35 [v] w fun _ w' => IntsO 3 base w' v l.reverse ∧ Step (ob v) w w' := by
  refine Ret.of_W Tryz.func35 rfl Tryz.ntmps35 Tryz.results35 (by simp) ?_
  refine W_seq <| W_region (by rfl) ?_
  refine x r_move <| x (r_lenA (own_arr (L := []) h hle (by simp)) rfl) <| x (r_sub rfl rfl ⟨by omega, by omega⟩) <| x r_assign <| x r_assign <| xe ?_
  refine W_block <| W_loop (α := Nat × List Int) [(2, 3), (7, 27)] (fun z => [(2, .int .i64 z.1), (3, .int .i64 ((l.length : Int) - 1 - z.1))])
    (fun z w' => Rv l z.1 z.2 ∧ 2 * z.1 ≤ l.length ∧ Step (ob v) w w' ∧ IntsO 3 base w' v z.2) (fun z => l.length - z.1) (by rfl) (0, l) ⟨rfl, congrArg (Value.int .i64) (by simp), trivial⟩ ⟨Rv.start l, by simp, Step.refl _ _, h⟩ ?_
  rintro ⟨i, li⟩ g w1 ⟨hR, hi2, hs1, hO⟩
  simp only [] at hR hi2 hO
  refine W_seq <| W_seq <| W_region (by rfl) ?_
  refine x r_move <| x r_move <| x (r_lss rfl rfl) <| xe ?_
  refine W_ifn rfl (fun h9 => ?_) (fun h9 => ?_)
  · refine W_exit ?_
    have h10 : ¬ (i : Int) < (l.length : Int) - 1 - (i : Int) := h9
    rw [hR.fin (by omega) hi2] at hO
    exact ⟨[], trivial, hO, hs1⟩
  have h10 : (i : Int) < (l.length : Int) - 1 - (i : Int) := h9
  have hij : i < l.length - 1 - i := by omega
  have hj : (l.length : Int) - 1 - (i : Int) = ((l.length - 1 - i : Nat) : Int) := by omega
  have hlen : li.length = l.length := hR.1
  have hnx := hR.next hij
  refine Exists.elim (hR.at_i hij) fun h0 hr => Exists.elim hr fun h3 hr => ?_
  refine Exists.elim (own_slice hO (by omega)) fun gg hg => Exists.elim hg fun cap hv => ?_
  have hA1 : Ints [] w1.heap v li := own_arr hO (by omega) (by simp)
  refine W_skip ?_
  refine W_seq <| W_block <| W_draw (Step [] w1) [(0, true), (1, true), (2, true), (3, true), (4, true), (5, true), (6, true), (7, true), (8, true), (9, true), (10, true), (11, true), (12, true), (13, false), (14, true), (15, false)] Tryz.mixed (by rfl) (by kernel_rfl) (Step.drew _ _) ?_
  refine p (fun _ => r_move) <| p (fun _ => r_move) <| p (fun _ => r_move) <| p (fun _ => r_move) <| p (fun _ => r_move) <| p (fun _ => r_move) <| pii (i := l.length - 1 - i) rfl hA1 rfl (congrArg (Value.int .i64) hj) h3 fun a20 h20 => ?_
  rw [hr.2] at h20
  refine pq (fun _ hc => r_loadA (h20.ext hc) rfl) <| p (fun _ => r_move) <| p (fun _ => r_move) <| pii (i := i) rfl hA1 rfl rfl h0 fun a24 h24 => ?_
  rw [hr.1] at h24
  refine pq (fun _ hc => r_loadA (h24.ext hc) rfl) <| p (fun _ => r_indexB (i := i) (show ev _ _ = _ from hv) rfl (by omega)) <|
    pkl (hl := by kernel_rfl) <| o_storeIO (own_ext hO (Step.drew [] w1)) hv rfl rfl h0 fun w2 hs2 hO2 => p (fun _ => r_indexB (i := l.length - 1 - i) (show ev _ _ = _ from hv) (congrArg (Value.int .i64) hj) (by omega)) <|
    pkl (hl := by kernel_rfl) <| o_storeIO hO2 (by rw [List.length_set]; exact hv) rfl rfl (by rw [List.length_set]; exact h3) fun w3 hs3 hO3 => pe ?_
  refine W_region (by rfl) ?_
  refine x r_move <| x (r_add rfl rfl ⟨by omega, by omega⟩) <| x r_move <| x (r_sub rfl rfl ⟨by omega, by omega⟩) <| x r_assign <| x r_assign <| xe ?_
  exact ⟨(i + 1, _), by simp only []; omega, ⟨rfl, congrArg (Value.int .i64) (by omega), trivial⟩, hnx, by simp only []; omega, ((hs1.trans (Step.drew [] w1)).trans' hs2).trans' hs3, hO3⟩
end Go.Proofs.YtfhgnlkdcdlblaaGreatDoor
/- Loops over functions: a call of yield within an iterator, and the rule for the loop itself. -/
namespace Go.Lg
open Go.RowKit

/-! ### Regions that call yield -/
def upY (P : Program) (m : Nat) (dst : Option Nat) (f : Fr) (K : Fr → World → Prop) : Result Next → Prop
  | .ok (.value v) w' => K (putF f dst v) w'
  | .ok .skip w' => K (putF f dst undef) w'
  | .ok (.enter g args) w' => Calls P g args w' fun e w'' => match e with | .returned v => K (putF f dst v) w'' | _ => False
  | .ok (.round l fn tmps assign body) w' => RoundIn (fen none) (m - 1) P l fn tmps assign body w' fun e w'' => match e with | .returned v => K (putF f dst v) w'' | _ => False
  | _ => False
def XOY (P : Program) (m : Nat) (o : Oper) (f : Fr) (w : World) (K : Fr → World → Prop) : Prop := upY P m o.dst f K ((execOp (ev f) o).run P w)
def XLY (P : Program) (m : Nat) (ops : List Oper) (K : Fr → World → Prop) : List Oper → Fr → World → Prop
  | [], f, w => K f w
  | o :: l, f, w => bif gdF ops f o then XOY P m o f w (XLY P m ops K l) else XLY P m ops K l (putF f o.dst undef) w
section
variable {m : Nat} {P : Program} {n : Nat} {ds : List Nat}
theorem XOY.of_XO {o : Oper} {f : Fr} {w : World} {K K' : Fr → World → Prop} (hK : ∀ f w, K f w → K' f w) (h : XO P o f w K) : XOY P m o f w K' := by
  unfold XO at h; unfold XOY
  generalize (execOp (ev f) o).run P w = r at h
  cases r with
  | ok nx w' =>
    cases nx <;> simp only [upF] at h <;> simp only [upY]
    case value v => exact hK _ _ h
    case skip => exact hK _ _ h
    case enter g args =>
      refine Calls.mono h fun e w'' he => ?_
      cases e with
      | returned v => exact hK _ _ he
      | panicked c => exact he.elim
      | outgrown => exact he.elim
  | halt x w' => exact h.elim
theorem XLY.pre {ops : List Oper} {K : Fr → World → Prop} {l2 : List Oper} : ∀ (l1 : List Oper) (f : Fr) (w : World), XL P ops (fun f w => XLY P m ops K l2 f w) l1 f w → XLY P m ops K (l1 ++ l2) f w
  | [], f, w, h => by unfold XL at h; exact h
  | o :: l1, f, w, h => by
    unfold XL at h
    show (bif gdF ops f o then XOY P m o f w (XLY P m ops K (l1 ++ l2)) else XLY P m ops K (l1 ++ l2) (putF f o.dst undef) w)
    cases hg : gdF ops f o with
    | false => rw [hg] at h; exact XLY.pre l1 _ _ h
    | true => rw [hg] at h; exact XOY.of_XO (fun f w h => XLY.pre l1 f w h) h
theorem XLY.pre2 {ops : List Oper} {K : Fr → World → Prop} {o1 o2 : Oper} {l2 : List Oper} {f : Fr} {w : World} (h : XL P ops (fun f w => XLY P m ops K l2 f w) [o1, o2] f w) : XLY P m ops K (o1 :: o2 :: l2) f w := XLY.pre [o1, o2] f w h
theorem XLY.of_XL {ops : List Oper} {K : Fr → World → Prop} {l : List Oper} {f : Fr} {w : World} (h : XL P ops K l f w) : XLY P m ops K l f w := by
  have := XLY.pre (m := m) (l2 := []) l f w h
  rwa [List.append_nil] at this
theorem XOY_wpIn {o : Oper} {a : Act} {f : Fr} {w : World} {K : Fr → World → Prop} {K' : Act → World → Prop} {Q : Exit → Act → World → Prop} (h : RelG n ds a f)
    (hK : ∀ v w', K (putF f o.dst v) w' → K' (a.put o.dst v) w') (hx : XOY P m o f w K) : o.wpIn (fen none) m P a w K' Q := by
  unfold XOY at hx
  refine ⟨fun _ _ => trivial, ?_⟩
  have e : Oper.semAt (fen none).round a.eval o = execOp (ev f) o := by rw [h.eval]; rfl
  rw [e]
  generalize (execOp (ev f) o).run P w = r at hx
  cases r with
  | ok nx w' =>
    cases nx <;> simp only [upY] at hx <;> simp only [Oper.uponIn]
    case value v => exact hK v w' hx
    case skip => exact hK _ w' hx
    case enter g args =>
      refine ⟨fun h => by simp [Fence.wide] at h, ?_⟩
      refine (callsIn_wide (n := m - 1)).2 (Calls.mono hx fun e w'' he => ?_)
      cases e with
      | returned v => exact hK v w'' he
      | panicked c => exact he.elim
      | outgrown => exact he.elim
    case round l fn tmps assign body =>
      refine ⟨fun h => by simp [Fence.wide] at h, ?_⟩
      refine RoundIn.mono hx fun e w'' he => ?_
      cases e with
      | returned v => exact hK v w'' he
      | panicked c => exact he.elim
      | outgrown => exact he.elim
  | halt x w' => exact hx.elim
theorem XLY_wpIn {Q : Exit → List Nat → Fr → World → Prop} {all : List Oper} (hn : ∀ o ∈ all, ∀ d, o.dst = some d → d < n) (f0 : Fr) :
    ∀ (l : List Oper) (k : Nat) (a : Act) (f : Fr) (w : World), (∀ j, l[j]? = all[k + j]?) → RelG n ds a f → (∀ t, wrsOps all t = false → f t = f0 t) →
      XLY P m all (fun f w => Q .normal ds f w) l f w →
      wpOpsIn (fen none) m P all.toArray (fun e a' w' => ∃ ds' f', RelG n ds' a' f' ∧ (∀ t, wrsOps all t = false → f' t = f0 t) ∧ Q e ds' f' w') (List.range' k l.length) a w
  | [], _, a, f, w, _, hr, hk, h => ⟨ds, f, hr, hk, by unfold XLY at h; exact h⟩
  | o :: l, k, a, f, w, hl, hr, hk, h => by
    have h0 : all[k]? = some o := by simpa using (hl 0).symm
    have hmem : o ∈ all := List.mem_of_getElem? h0
    have ih := fun a f w => XLY_wpIn (Q := Q) hn f0 l (k + 1) a f w (fun j => by have := hl (j + 1); simpa [Nat.add_assoc, Nat.add_comm 1 j] using this)
    have next : ∀ v, (∀ t, wrsOps all t = false → putF f o.dst v t = f0 t) := fun v t ht => (putF_keep (wrsOps_mem hmem ht) v).trans (hk t ht)
    simp only [List.length_cons, List.range'_succ, wpOpsIn, List.getElem?_toArray, h0]
    rw [wanted_ofG hr hn o]
    unfold XLY at h
    cases hg : gdF all f o with
    | false =>
      rw [hg] at h
      exact ⟨fun _ _ => trivial, ih _ _ _ (hr.put (hn o hmem) _) (next _) h⟩
    | true =>
      rw [hg] at h
      exact XOY_wpIn hr (fun v w' hx => ih _ _ _ (hr.put (hn o hmem) v) (next v) hx) h
theorem G_regionY {Q : Exit → List Nat → Fr → World → Prop} {f : Fr} {w : World} {id : Nat} {l : List Oper} (hn : dstOk n l = true) (h : XLY P m l (fun f w => Q .normal ds f w) l f w) : WG none m P n (.region id l.toArray false) Q ds f w := by
  unfold WG
  intro a ha
  refine wpIn_region ?_
  have := XLY_wpIn (m := m) (dstOk_spec hn) f l 0 a f w (by simp) ha (fun _ _ => rfl) h
  simpa [List.range_eq_range', wrsG] using this
/-- A call of yield. -/
theorem xy {ops : List Oper} {rest : List Oper} {f : Fr} {w : World} {K : Fr → World → Prop} {d : Option Nat} {ty : Nat} {ps : String} {af : Array Edge} {gd : Option (Nat × Bool)} {x y : Operand} {at_ : Array Nat} {l : Nat} {R : Ending → World → Prop}
    (hx : ev f x = .func (.yield l) #[] #[]) (hy : YieldAt (fen none) (m - 1) P l #[ev f y] w R) (hK : ∀ e w', R e w' → ∃ v, e = .returned v ∧ XLY P m ops K rest (putF f d v) w')
    (hg : gdF ops f ⟨d, .call ⟨.value x, [y].toArray, at_⟩, ty, ps, af, gd⟩ = true := by rfl) :
    XLY P m ops K (⟨d, .call ⟨.value x, [y].toArray, at_⟩, ty, ps, af, gd⟩ :: rest) f w := by
  obtain ⟨fn, tmps, assign, body, h1, h2⟩ := hy
  have hr : (execOp (ev f) ⟨d, .call ⟨.value x, [y].toArray, at_⟩, ty, ps, af, gd⟩).run P w = .ok (.round l fn tmps assign body) w := by
    simp [execOp, resolve, hx, Deferred.ofValue, invoke, h1]
  unfold XLY
  rw [hg]
  simp only [XOY, hr, upY, cond_true]
  exact h2.mono fun e w' h => by obtain ⟨v, rfl, hk⟩ := hK e w' h; exact hk
end

attribute [irreducible] XLY
/-! ### What a round keeps -/
/-- Between two worlds: of what lay below B only blocks of L have turned. -/
structure Lw (B : Nat) (L : List Nat) (w w' : World) : Prop where
  os : w'.os = w.os
  tape : w'.tape = w.tape
  output : w'.output = w.output
  size : w.heap.size ≤ w'.heap.size
  low : ∀ k, k < B → k ∉ L → w'.heap[k]? = w.heap[k]?
theorem Lw.refl (B : Nat) (L : List Nat) (w : World) : Lw B L w w := ⟨rfl, rfl, rfl, Nat.le_refl _, fun _ _ _ => rfl⟩
theorem Lw.trans {B : Nat} {L : List Nat} {w0 w w' : World} (h : Lw B L w0 w) (k : Lw B L w w') : Lw B L w0 w' :=
  ⟨k.os.trans h.os, k.tape.trans h.tape, k.output.trans h.output, Nat.le_trans h.size k.size, fun i hi hn => (k.low i hi hn).trans (h.low i hi hn)⟩
theorem Step.lw {L : List Nat} {w w' w'' : World} (h : Step L w w') (k : Lw w.heap.size L w' w'') : Step L w w'' :=
  ⟨k.os.trans h.os, k.tape.trans h.tape, k.output.trans h.output, Nat.le_trans h.size k.size, fun i hi hn => (k.low i hi hn).trans (h.block i hi hn)⟩
/-- A round's steps: what is no cells stands too. -/
structure RSt (B : Nat) (L : List Nat) (W W' : World) : Prop where
  lw : Lw B L W W'
  other : ∀ (k : Nat) (o : Obj), W.heap[k]? = some o → o.isCells = false → W'.heap[k]? = some o
theorem RSt.refl (B : Nat) (L : List Nat) (w : World) : RSt B L w w := ⟨Lw.refl _ _ _, fun _ _ h _ => h⟩
theorem RSt.trans {B : Nat} {L : List Nat} {w0 w w' : World} (h : RSt B L w0 w) (k : RSt B L w w') : RSt B L w0 w' := ⟨h.lw.trans k.lw, fun i o hi ho => k.other i o (h.other i o hi ho) ho⟩
theorem RSt.step {B : Nat} {L X : List Nat} {W W' : World} (h : Step X W W') (hB : B ≤ W.heap.size) (hX : ∀ b ∈ X, (b ∈ L ∨ B ≤ b) ∧ ∃ o : Obj, W.heap[b]? = some o ∧ o.isCells = true) : RSt B L W W' := by
  refine ⟨⟨h.os, h.tape, h.output, h.size, fun k hk hn => h.block k (by omega) (fun hx => ?_)⟩, fun k o hk ho => ?_⟩
  · rcases (hX k hx).1 with h1 | h1
    · exact hn h1
    · omega
  · refine (h.block k (Array.getElem?_eq_some_iff.1 hk).1 (fun hx => ?_)).trans hk
    obtain ⟨o', h1, h2⟩ := (hX k hx).2
    rw [hk] at h1; cases h1; rw [ho] at h2; cases h2
theorem RSt.ext {B : Nat} {L : List Nat} {W W' : World} (h : Step [] W W') (hB : B ≤ W.heap.size) : RSt B L W W' := RSt.step h hB (fun _ hb => by cases hb)
theorem Blk.cells {H : Array Obj} {b T : Nat} {cs : List Value} (h : Blk H b T cs) : ∃ o : Obj, H[b]? = some o ∧ o.isCells = true := ⟨_, h, rfl⟩
theorem RSt.blk {B : Nat} {L : List Nat} {W W' : World} {b T : Nat} {cs : List Value} (h : Step [b] W W') (hB : B ≤ W.heap.size) (hb : Blk W.heap b T cs) (hL : b ∈ L ∨ B ≤ b) : RSt B L W W' :=
  RSt.step h hB (fun c hc => by have e : c = b := by simpa using hc
                                subst e; exact ⟨hL, hb.cells⟩)

/-- What stands when a block that is no cells, beyond B, turns. -/
def Stb (B : Nat) (I : World → Prop) : Prop := ∀ W W' X, I W → Step X W W' → (∀ r ∈ X, B ≤ r ∧ ∃ o : Obj, W.heap[r]? = some o ∧ o.isCells = false) → I W'
theorem Stb.own {β : Type} {B : Nat} {I : β → World → Prop} (h : ∀ s, Stb B (I s)) : OwnFrom B I := fun s W W' row hs hg hr =>
  h s W W' _ hs (Step.of_grown hg) (fun r hr' => hr r (by cases row <;> simp at hr' ⊢; exact hr'.symm))
theorem Stb.blk {B : Nat} {b T : Nat} {cs : List Value} : Stb B (fun W => Blk W.heap b T cs) := fun W W' X h hs hX => h.step hs (fun hb => by
  obtain ⟨_, o, h1, h2⟩ := hX b hb
  unfold Blk at h; rw [h] at h1; cases h1; cases h2)
theorem Stb.and {B : Nat} {I J : World → Prop} (h : Stb B I) (k : Stb B J) : Stb B (fun W => I W ∧ J W) := fun W W' X hi hs hX => ⟨h W W' X hi.1 hs hX, k W W' X hi.2 hs hX⟩
theorem Stb.ex {B : Nat} {β : Type} {I : β → World → Prop} (h : ∀ z, Stb B (I z)) : Stb B (fun W => ∃ z, I z W) := fun W W' X ⟨z, hi⟩ hs hX => ⟨z, h z W W' X hi hs hX⟩
theorem Stb.pure {B : Nat} (p : Prop) : Stb B (fun _ => p) := fun _ _ _ h _ _ => h
theorem Stb.step {B : Nat} {L : List Nat} {w : World} (hB : w.heap.size ≤ B) : Stb B (fun W => Step L w W) := fun W W' X h hs hX => h.then hs (fun b hb => .inr (by have := (hX b hb).1; omega))
theorem own_cells {w : World} {base e sz n : Nat} {v : Value} {cs : List Value} (h : w.ownsRow base e sz v n cs) : ∀ b ∈ ob v, ∃ o : Obj, w.heap[b]? = some o ∧ o.isCells = true := by
  intro b hb
  rcases h.2 with ⟨h1, _⟩ | ⟨g, cap, cur, h1, h2, h3, _⟩
  · subst h1; simp [ob] at hb
  · subst h1; simp [ob] at hb; subst hb; exact ⟨_, h3, rfl⟩
theorem Stb.row {B base e sz n : Nat} {v : Value} {cs : List Value} : Stb B (fun W => W.ownsRow base e sz v n cs) := fun W W' X h hs hX => own_step h hs (fun b hb hx => by
  obtain ⟨_, o, h1, h2⟩ := hX b hx
  obtain ⟨o', h3, h4⟩ := own_cells h b hb
  rw [h1] at h3; cases h3; rw [h2] at h4; cases h4)

/-! ### The loop -/
theorem G_range {α : Type} {m : Nat} {P : Program} {n : Nat} {Q : Exit → List Nat → Fr → World → Prop} {ds : List Nat} {f : Fr} {w : World} {g : Operand} {p : Nat} {assign body : Code} (L : List Nat) (h1 : 1 ≤ m)
    {gf : Nat} {fn : Func} [hF : Fu P gf fn] {capt : List Value} (hg : ev f g = .func (.func gf) #[] capt.toArray) {enc : α → Value} {S : List α → Prop} {N : Nat} (hp : p < n)
    (hseq : SeqStopsK (fen none) (m - 1) P gf capt.toArray (fun x => #[enc x]) (Lw w.heap.size L) S (fun _ => True) N w)
    (I : List α → World → Prop) (hI : ∀ s, Stb w.heap.size (I s)) (h0 : I [] w) (A : Fr → α → Fr → World → Prop) (hA : ∀ x f', Stb w.heap.size (A f x f'))
    (hassign : ∀ l pre x W, I pre W → WG (some l) (m - 1 - 1) P n assign (thnG (fun ds' f' W' => ds' = [] ∧ RSt w.heap.size L W W' ∧ I pre W' ∧ A f x f' W') (fun _ _ _ _ => False)) [] (upd f p (enc x)) W)
    (hbody : ∀ l pre x f' W, I pre W → A f x f' W → pre.length < N → WG (some l) (m - 1 - 1) P n body (thnG (fun _ _ W' => RSt w.heap.size L W W' ∧ I (pre ++ [x]) W') (fun _ _ _ _ => False)) [] f' W)
    (hdone : ∀ D xs W, w.heap.size ≤ D → S xs → I xs W → W.heap[D]? = some (.deferred (some [])) → Q .normal (D :: ds) f W) :
    WG none m P n (.rangeFunc g #[p] assign body) Q ds f w := by
  unfold WG at hassign hbody ⊢
  intro a ha
  have eg : ∀ args w, (callFunc gf args).run P w = .ok (.enter gf args) w := by
    intro args w
    have h1 : ¬ fn.name = "runtime.NumGoroutine" := by simpa using hF.nm
    have h2 : ¬ fn.body = none := by have := hF.b; intro e; rw [e] at this; cases this
    simp [callFunc, hF.f, h1, h2]
  have keep : ∀ {W W' : World}, RSt w.heap.size L W W' → KeepsFrom w.heap.size W W' := fun h => ⟨h.lw.size, fun k o _ hk ho => h.other k o hk ho⟩
  refine wpIn_rangeFunc_ownH (F := fen none) rfl h1 (gf := gf) (lb := capt.toArray) (by rw [ha.eval]; exact hg) trivial eg hseq (fun h k => h.trans k)
    (fun W l o o' hl ho _ _ => ⟨rfl, rfl, rfl, by simp, fun k hk _ => World.putObj_heap_other (by omega)⟩) (Below.refl _ _) (fun _ => rfl) I (fun _ _ _ => False) (Stb.own hI) (fun _ _ _ _ _ hs _ _ => hs) h0
    (fun x a' W => ∃ f', RelG n [] a' f' ∧ A f x f' W) (fun x a' => Stb.own fun _ => Stb.ex fun f' => Stb.and (Stb.pure _) (hA x f')) ?_ ?_ ?_ ?_
  · intro l pre x W K hi hK
    have hr : RelG n [] { tmps := ((#[p] : Array Nat).zip #[enc x]).foldl (fun t (p, v) => t.setIfInBounds p v) a.tmps, defers := [] } (upd f p (enc x)) := by
      have h2 : RelG n [] { a with defers := [] } f := ⟨ha.size, rfl, ha.get⟩
      have h3 := h2.put (dst := some p) (fun d e => by cases e; exact hp) (enc x)
      have e : ((#[p] : Array Nat).zip #[enc x]).foldl (fun t (p, v) => t.setIfInBounds p v) a.tmps = a.tmps.setIfInBounds p (enc x) := by simp
      rw [e]; exact h3
    refine wpIn_mono (hassign l pre x W hi _ hr) ?_
    rintro e a' W' ⟨ds', f', h2, _, h3⟩
    cases e with
    | normal => obtain ⟨rfl, h4, h5, h6⟩ := h3; exact hK a' W' (keep h4) h4.lw h5 ⟨f', h2, h6⟩
    | exit id => exact h3.elim
    | goto l => exact h3.elim
    | ret => exact h3.elim
    | panic ch => exact h3.elim
    | outgrown => exact h3.elim
  · rintro l pre x a' W _ _ hi ⟨f', h2, h3⟩ hlt
    refine wpIn_mono (hbody l pre x f' W hi h3 hlt a' h2) ?_
    rintro e a'' W' ⟨ds', f'', h4, _, h5⟩
    cases e with
    | normal => exact ⟨keep h5.1, h5.1.lw, h5.2⟩
    | exit id => exact h5.elim
    | goto l => exact h5.elim
    | ret => exact h5.elim
    | panic ch => exact h5.elim
    | outgrown => exact h5.elim
  · intro D xs W hD hS hi hd
    exact ⟨D :: ds, f, ⟨ha.size, by rw [show coll (D :: ds) = { target := .collected D, args := #[] } :: coll ds from rfl, ha.defers], ha.get⟩, fun _ _ => rfl, hdone D xs W hD hS hi hd⟩
  · intro D c pre W _ _ h _
    exact h.elim

/-! ### Struct literals with parts of several cells -/
def bwOf (P : Program) (t : Nat) : Option (List Value × List (Nat × Nat)) := match P.info? t, P.underlying t with
  | some it, some (.struct fs) => match it.zero, fs.toList.mapM (fun f => (P.info? f.type).map fun i => (f.offset, i.size)) with
    | some (.agg zs), some pl => some (zs.toList, pl)
    | _, _ => none
  | _, _ => none
class Bw (P : Program) (t : Nat) (zs : outParam (List Value)) (pl : outParam (List (Nat × Nat))) : Prop where
  h : bwOf P t = some (zs, pl)
  b : pl.all (fun x => x.1 + x.2 ≤ zs.length) = true
def setL : List Value → Nat → List Value → List Value
  | zs, _, [] => zs
  | zs, o, u :: us => setL (zs.set o u) (o + 1) us
def bldW (pl : List (Nat × Nat)) (zs : List Value) : List (Nat × List Value) → List Value
  | [] => zs
  | (j, us) :: ps => bldW pl (setL zs (pl.getD j (0, 0)).1 us) ps
def CelL : List (Nat × Value) → List (Nat × List Value) → Prop
  | [], [] => True
  | (j, v) :: vs, (j', us) :: uss => v.cells = us.toArray ∧ j = j' ∧ CelL vs uss
  | _, _ => False
theorem setL_len : ∀ (us zs : List Value) (o : Nat), (setL zs o us).length = zs.length
  | [], _, _ => rfl
  | u :: us, zs, o => by rw [setL, setL_len us, List.length_set]
theorem setL_fold (o : Nat) : ∀ (us : List Value) (k : Nat) (zs : List Value), (us.zipIdx k).foldl (fun (cs : Array Value) (x : Value × Nat) => cs.setIfInBounds (o + x.2) x.1) zs.toArray = (setL zs (o + k) us).toArray
  | [], _, _ => rfl
  | u :: us, k, zs => by
    rw [List.zipIdx_cons, List.foldl_cons, setL]
    have := setL_fold o us (k + 1) (zs.set (o + k) u)
    rw [← List.setIfInBounds_toArray] at this
    exact this
theorem fill_w {pl : List (Nat × Nat)} : ∀ (vs : List (Nat × Value)) (uss : List (Nat × List Value)) (zs : List Value), CelL vs uss → uss.all (fun p => p.1 < pl.length && (p.2.length == (pl.getD p.1 (0, 0)).2)) = true →
    (∀ x ∈ pl, x.1 + x.2 ≤ zs.length) → Instr.fill (pl.toArray[·]?) zs.toArray vs = some (bldW pl zs uss).toArray
  | [], [], zs, _, _, _ => rfl
  | [], _ :: _, _, h, _, _ => h.elim
  | _ :: _, [], _, h, _, _ => h.elim
  | (j, v) :: vs, (j', us) :: uss, zs, h1, h2, h3 => by
    obtain ⟨hc, rfl, h1⟩ := h1
    simp only [List.all_cons, Bool.and_eq_true, decide_eq_true_eq, beq_iff_eq] at h2
    obtain ⟨⟨hj, hl⟩, h2⟩ := h2
    have hg : pl.getD j (0, 0) = pl[j]'hj := by simp [List.getD, hj]
    have hm := h3 _ (List.getElem_mem hj)
    unfold Instr.fill
    simp only [List.getElem?_toArray, List.getElem?_eq_getElem hj, hc]
    rw [hg] at hl
    rw [if_neg (by simp only [List.size_toArray, hl, ne_eq, not_true, decide_false, Bool.false_or, decide_eq_true_eq]; omega)]
    have e := setL_fold (pl[j]'hj).1 us 0 zs
    rw [Nat.add_zero] at e
    have e2 : (us.toArray.zipIdx).foldl (fun (cs : Array Value) (x : Value × Nat) => cs.setIfInBounds ((pl[j]'hj).1 + x.2) x.1) zs.toArray = (setL zs (pl[j]'hj).1 us).toArray := by
      rw [← e]; simp
    rw [e2, bldW, hg]
    have e3 := fill_w vs uss (setL zs (pl[j]'hj).1 us) h1 h2 (fun x hx => by rw [setL_len]; exact h3 x hx)
    simpa only [List.getElem?_toArray] using e3
theorem bwOf_built {P : Program} {t : Nat} {zs : List Value} {pl : List (Nat × Nat)} (h : bwOf P t = some (zs, pl)) (hb : pl.all (fun x => x.1 + x.2 ≤ zs.length) = true) (vs : List (Nat × Value)) (uss : List (Nat × List Value)) (h1 : CelL vs uss)
    (h2 : uss.all (fun p => p.1 < pl.length && (p.2.length == (pl.getD p.1 (0, 0)).2)) = true) : P.built t vs = some (bldW pl zs uss).toArray := by
  have h3 : ∀ x ∈ pl, x.1 + x.2 ≤ zs.length := fun o ho => by simpa using List.all_eq_true.1 hb o ho
  unfold bwOf at h
  unfold Program.built
  cases hi : P.info? t with
  | none => simp [hi] at h
  | some it =>
    cases hu : P.underlying t with
    | none => simp [hi, hu] at h
    | some dd =>
      simp only [hi, hu] at h
      cases dd <;> simp only [] at h <;> try (cases h)
      case struct fs =>
        cases hz : it.zero with
        | none => simp [hz] at h
        | some z =>
          cases z <;> simp only [hz] at h <;> try (cases h)
          rename_i za
          cases hm : fs.toList.mapM (fun f => (P.info? f.type).map fun i => (f.offset, i.size)) with
          | none => simp [hm] at h
          | some pl' =>
            simp only [hm, Option.some.injEq, Prod.mk.injEq] at h
            obtain ⟨rfl, rfl⟩ := h
            simp only [hz, hm, Value.cells]
            exact fill_w vs uss za.toList h1 h2 h3
theorem r_buildW {P : Program} {f : Fr} {w : World} {d : Option Nat} {ty : Nat} {ps : String} {af : Array Edge} {gd : Option (Nat × Bool)} {t : Nat} {zs : List Value} {pl : List (Nat × Nat)} [h : Bw P t zs pl] {parts : List (Nat × Operand)} (uss : List (Nat × List Value))
    (h1 : CelL (parts.map fun x => (x.1, ev f x.2)) uss) (h2 : uss.all (fun p => p.1 < pl.length && (p.2.length == (pl.getD p.1 (0, 0)).2)) = true := by rfl) :
    (execOp (ev f) ⟨d, .build t parts.toArray, ty, ps, af, gd⟩).run P w = .ok (.value (.agg (bldW pl zs uss).toArray)) w := by
  have hb := bwOf_built h.h h.b _ uss h1 h2
  have hr := run_build (P := P) w t (parts.toArray.map fun (i, x) => (i, ev f x)) _ (by simpa using hb)
  simp only [execOp, Sem.run_bind, hr, Result.andThen_ok, Sem.run_pure]
end Go.Lg
/- reach.newGraph: where the edges of each state begin. -/
namespace Go.Proofs.YtfhgnlkdcdlblaaGreatDoor
open Go.Lg

def cnE (p : Ed → Bool) (es : List Ed) : Int := ((es.filter p).length : Int)
theorem cnE_snoc (p : Ed → Bool) (es : List Ed) (e : Ed) : cnE p (es ++ [e]) = cnE p es + if p e = true then 1 else 0 := by
  unfold cnE
  rw [List.filter_append, List.length_append]
  by_cases h : p e = true
  · simp [h]
  · simp [h]
theorem cnE_le (p : Ed → Bool) (es : List Ed) : 0 ≤ cnE p es ∧ cnE p es ≤ es.length := by
  unfold cnE
  have := List.length_filter_le p es
  omega
def gA (n : Nat) (f : Nat → Int) : List Int := (List.range n).map f
theorem gA_len (n : Nat) (f : Nat → Int) : (gA n f).length = n := by simp [gA]
theorem gA_get {n : Nat} {f : Nat → Int} {i : Nat} (h : i < (gA n f).length) : (gA n f)[i]'h = f i := by simp [gA]
theorem gA_set {n : Nat} {f g : Nat → Int} {i : Nat} {u : Int} (hu : u = g i) (h : ∀ j, j < n → j ≠ i → g j = f j) : (gA n f).set i u = gA n g := by
  apply List.ext_getElem
  · simp [gA]
  · intro k h1 h2
    rw [List.getElem_set, gA_get h2]
    by_cases e : i = k
    · rw [if_pos e, hu, e]
    · rw [if_neg e, gA_get]
      exact (h k (by simpa [gA] using h2) (Ne.symm e)).symm
theorem gA_congr {n : Nat} {f g : Nat → Int} (h : ∀ j, j < n → f j = g j) : gA n f = gA n g := List.map_congr_left (fun j hj => h j (List.mem_range.1 hj))
/-- Edges that begin in state s - 1. -/
def cN (es : List Ed) (s : Nat) : Int := cnE (fun e => decide (e.1 + 1 = (s : Int))) es
/-- Edges that begin ahead of state s. -/
def fS (es : List Ed) (s : Nat) : Int := cnE (fun e => decide (e.1 < (s : Int))) es
theorem fS_succ (es : List Ed) (s : Nat) : fS es (s + 1) = cN es (s + 1) + fS es s := by
  unfold fS cN cnE
  induction es with
  | nil => rfl
  | cons e es ih =>
    simp only [List.filter_cons]
    by_cases h1 : e.1 < (s : Int)
    · have h2 : e.1 < ((s + 1 : Nat) : Int) := by omega
      have h3 : ¬ e.1 + 1 = ((s + 1 : Nat) : Int) := by omega
      simp only [h1, h2, h3, decide_true, decide_false, if_true, List.length_cons] at ih ⊢
      simp only [Bool.false_eq_true, if_false] at ih ⊢
      omega
    · by_cases h2 : e.1 + 1 = ((s + 1 : Nat) : Int)
      · have h3 : e.1 < ((s + 1 : Nat) : Int) := by omega
        simp only [h1, h2, h3, decide_true, decide_false, if_true, List.length_cons] at ih ⊢
        simp only [Bool.false_eq_true, if_false] at ih ⊢
        omega
      · have h3 : ¬ e.1 < ((s + 1 : Nat) : Int) := by omega
        simp only [h1, h2, h3, decide_false, Bool.false_eq_true, if_false] at ih ⊢
        exact ih
theorem fS_zero {es : List Ed} (h : ∀ e ∈ es, 0 ≤ e.1) : fS es 0 = 0 ∧ cN es 0 = 0 := by
  unfold fS cN cnE
  refine ⟨?_, ?_⟩
  · have : (es.filter fun e => decide (e.1 < ((0 : Nat) : Int))) = [] := List.filter_eq_nil_iff.2 (fun e he => by have := h e he; simp; omega)
    rw [this]; rfl
  · have : (es.filter fun e => decide (e.1 + 1 = ((0 : Nat) : Int))) = [] := List.filter_eq_nil_iff.2 (fun e he => by have := h e he; simp; omega)
    rw [this]; rfl
def mX (es : List Ed) (s j : Nat) : Int := if j ≤ s then fS es j else cN es j
theorem mX_zero {es : List Ed} (h : ∀ e ∈ es, 0 ≤ e.1) (n : Nat) : gA n (cN es) = gA n (mX es 0) := gA_congr fun j _ => by
  unfold mX
  by_cases e : j ≤ 0
  · have : j = 0 := by omega
    subst this
    rw [if_pos (Nat.le_refl _), (fS_zero h).1, (fS_zero h).2]
  · rw [if_neg e]
theorem mX_next (es : List Ed) (s n : Nat) : (gA n (mX es s)).set (s + 1) (mX es s (s + 1) + mX es s s) = gA n (mX es (s + 1)) := by
  refine gA_set ?_ fun j _ hj => ?_
  · unfold mX
    rw [if_neg (by omega), if_pos (Nat.le_refl _), if_pos (Nat.le_refl _), fS_succ]
  · unfold mX
    by_cases e : j ≤ s
    · rw [if_pos (by omega), if_pos e]
    · rw [if_neg (by omega), if_neg e]
theorem cN_next (es : List Ed) (e : Ed) (h0 : 0 ≤ e.1) (n : Nat) : (gA n (cN es)).set (e.1.toNat + 1) (cN es (e.1.toNat + 1) + 1) = gA n (cN (es ++ [e])) := by
  refine gA_set ?_ fun j _ hj => ?_
  · unfold cN
    rw [cnE_snoc, if_pos (by simp; omega)]
  · unfold cN
    rw [cnE_snoc, if_neg (by simp; omega)]; simp

theorem make_zero (n : Nat) : (List.replicate n (Value.int .i64 0).cells.toList).flatten = (gA n (cN [])).map (Value.int .i64) := by
  apply List.ext_getElem
  · simp [Value.cells, gA]
  · intro i h1 h2
    simp [Value.cells, gA, cN, cnE]
section
variable {P : Program} {K : Fr → World → Prop} {f : Fr} {w : World} {d : Option Nat} {ty : Nat} {ps : String} {af : Array Edge} {gd : Option (Nat × Bool)}
theorem r_loadG {t : Nat} [One P t] {x : Operand} {b T i n : Nat} {g : Nat → Int} (h : Blk w.heap b T ((gA n g).map (.int .i64))) (hx : ev f x = .pointer (some ⟨b, 0 + i * 1, none⟩)) (hi : i < n) :
    (execOp (ev f) ⟨d, .load t x, ty, ps, af, gd⟩).run P w = .ok (.value (.int .i64 (g i))) w := r_loadB h hx (by simp [gA, hi])
theorem o_storeG {t : Nat} [h1 : One P t] {x y : Operand} {b T i n : Nat} {g g' : Nat → Int} {u : Int} (hB : Blk w.heap b T ((gA n g).map (.int .i64))) (hx : ev f x = .pointer (some ⟨b, 0 + i * 1, none⟩)) (hy : ev f y = .int .i64 u) (hi : i < n) (hg : (gA n g).set i u = gA n g')
    (hK : ∀ w', Step [b] w w' → Blk w'.heap b T ((gA n g').map (.int .i64)) → K (putF f d undef) w') : XO P ⟨d, .store t x y, ty, ps, af, gd⟩ f w K :=
  o_storeI hB hx hy (by rw [gA_len]; exact hi) fun w' hs hB' => hK w' hs (by rw [← hg]; exact hB')
end
instance : Bw Tryz.prog 89 [.slice none 0 0, .int .i64 0, .slice none 0 0, .slice none 0 0, .slice none 0 0] [(0, 4), (4, 1)] := ⟨by kernel_rfl, by decide⟩
theorem newGraph_ok {w : World} {va vm ve : Value} {a : Aut} {n : Nat} (h : AutA [] w.heap va vm ve a) (hn : a.st = (n : Int)) (hst1 : a.st ≤ 4096) (hed : ∀ e ∈ a.ed, 0 ≤ e.1 ∧ e.1 < a.st) :
    Ret Tryz.prog 37 [.agg #[va, .int .i64 a.st, vm, ve]] w fun r w' => Step [] w w' ∧ ∃ b, r = .agg #[va, .int .i64 a.st, vm, ve, .slice (some ⟨b, 0, none⟩) (n + 1) (n + 1)] ∧ w.heap.size ≤ b ∧ Blk w'.heap b 3 ((gA (n + 1) (fS a.ed)).map (Value.int .i64)) := by
  have hel := h.ed.le
  refine Ret.of_W Tryz.func37 rfl Tryz.ntmps37 Tryz.results37 (by simp) ?_
  refine W_seq <| W_region (by rfl) ?_
  refine xl rfl <| o_box (us := [va, .int .i64 a.st, vm, ve]) rfl fun b1 w1 hs1 hb1 hB1 => xl rfl <| o_alloc (us := [.slice none 0 0, .int .i64 0, .slice none 0 0, .slice none 0 0, .slice none 0 0]) rfl fun b2 w2 hs2 hb2 hB2 => xe ?_
  have hs12 := hs1.trans hs2
  have hB12 := hB1.ext hs2
  have h2 := h.ext hs12
  have hn1 : a.st + 1 = ((n + 1 : Nat) : Int) := by omega
  have hc0 : Step [] w2 { w2 with drawn := w2.drawn + 1 } := Step.drew [] w2
  have hz0 := hc0.size
  refine W_cut (α := Nat × Nat) [(3, 3), (7, 12)] (fun z => [(3, .pointer (some ⟨z.1, 0, none⟩))]) (fun z w' => Step [] w2 w' ∧ Blk w'.heap z.1 89 [va, .int .i64 a.st, vm, ve, .slice (some ⟨z.2, 0, none⟩) (n + 1) (n + 1)] ∧ Blk w'.heap z.2 3 ((gA (n + 1) (cN [])).map (Value.int .i64)) ∧ w2.heap.size ≤ z.1 ∧ w2.heap.size ≤ z.2 ∧ z.1 ≠ z.2) (by rfl) ?_ ?_
  · refine W_drawU (Step [] w2) (.f2 [(0, true), (1, true), (2, true), (3, true)] 4 6 (.pl [(5, true), (6, false), (7, false)]) (.pl [(4, false), (5, true), (7, false)])) Tryz.mixed (by rfl) (by kernel_rfl) (Step.drew _ _) ?_
    refine u2 <| pq (fun _ hc => r_loadsB (hB12.ext hc) rfl rfl) <| p (fun _ => r_fieldB rfl) <| pq (fun _ hc => r_loadB (hB12.ext hc) rfl rfl) <| p (fun _ => r_add rfl rfl ⟨by omega, by omega⟩) <| pe ⟨?_, ?_⟩
    · refine ue <| o_make (n := n + 1) (congrArg (Value.int .i64) hn1) (congrArg (Value.int .i64) hn1) (by omega) fun b11 w3 hs3 hb11 hB11 => ?_
      have hc3 := hc0.trans hs3
      have hl11 := hB11.lt
      refine ⟨hc3, ?_⟩
      refine uP <| p (fun _ => r_buildW [(0, [va, .int .i64 a.st, vm, ve]), (1, [.slice (some ⟨b11, 0, none⟩) (n + 1) (n + 1)])] ⟨rfl, rfl, rfl, rfl, trivial⟩) <| pk <| o_alloc (us := [.slice none 0 0, .int .i64 0, .slice none 0 0, .slice none 0 0, .slice none 0 0]) rfl fun b3 w4 hs4 hb3 hB3 => ?_
      have hc4 := hc3.trans hs4
      refine ⟨hc4, ?_⟩
      refine pk <| o_stores (us := [va, .int .i64 a.st, vm, ve, .slice (some ⟨b11, 0, none⟩) (n + 1) (n + 1)]) hB3 rfl rfl rfl rfl ⟨h.al.one, rfl, h.mr.one, h.ed.one, rfl, trivial⟩ fun w5 hs5 hB5 => ⟨hc4.then1 hs5 (by omega), pe ?_⟩
      have hB11' : Blk w3.heap b11 3 ((gA (n + 1) (cN [])).map (Value.int .i64)) := by rw [← make_zero]; exact hB11
      exact ⟨(b3, b11), ⟨rfl, trivial⟩, hc4.then1 hs5 (by omega), hB5, (hB11'.ext hs4).step hs5 (by simp; omega), by simp only []; omega, by simp only []; omega, by simp only []; omega⟩
    · refine ue <| o_alloc (us := [.slice none 0 0, .int .i64 0, .slice none 0 0, .slice none 0 0, .slice none 0 0]) rfl fun b3 w3 hs3 hb3 hB3 => ?_
      have hc3 := hc0.trans hs3
      have hl3 := hB3.lt
      refine ⟨hc3, ?_⟩
      refine uP <| pk <| o_make (n := n + 1) (congrArg (Value.int .i64) hn1) (congrArg (Value.int .i64) hn1) (by omega) fun b11 w4 hs4 hb11 hB11 => ?_
      have hc4 := hc3.trans hs4
      refine ⟨hc4, ?_⟩
      refine p (fun _ => r_buildW [(0, [va, .int .i64 a.st, vm, ve]), (1, [.slice (some ⟨b11, 0, none⟩) (n + 1) (n + 1)])] ⟨rfl, rfl, rfl, rfl, trivial⟩) <| pk <| o_stores (us := [va, .int .i64 a.st, vm, ve, .slice (some ⟨b11, 0, none⟩) (n + 1) (n + 1)]) (hB3.ext hs4) rfl rfl rfl rfl ⟨h.al.one, rfl, h.mr.one, h.ed.one, rfl, trivial⟩ fun w5 hs5 hB5 => ⟨hc4.then1 hs5 (by omega), pe ?_⟩
      have hB11' : Blk w4.heap b11 3 ((gA (n + 1) (cN [])).map (Value.int .i64)) := by rw [← make_zero]; exact hB11
      exact ⟨(b3, b11), ⟨rfl, trivial⟩, hc4.then1 hs5 (by omega), hB5, hB11'.step hs5 (by simp; omega), by simp only []; omega, by simp only []; omega, by simp only []; omega⟩
  rintro ⟨b3, bF⟩ g6 w6 ⟨hs6, hB3, hBF, hb3, hbF, hne⟩
  simp only [] at hB3 hBF hb3 hbF hne
  have hel' : a.ed.length ≤ 1099511627776 := hel
  have hB1' := hB12.ext hs6
  have hB2' := hB2.ext hs6
  have hl1 := hB12.lt
  have hl2 := hB2.lt
  refine W_seq <| W_seq <| W_region (by rfl) ?_
  refine x (r_fieldB rfl) <| x (r_loadB hB1' rfl rfl) <| x (r_lenA h.ed rfl) <| x r_move <| xe ?_
  have hed0 : ∀ e ∈ a.ed, 0 ≤ e.1 := fun e he => (hed e he).1
  refine W_block <| W_loop (α := Nat) [(5, 5), (16, 29)] (fun z => [(16, .int .i64 z)]) (fun z w' => z ≤ a.ed.length ∧ Step [] w2 w' ∧ Blk w'.heap b3 89 [va, .int .i64 a.st, vm, ve, .slice (some ⟨bF, 0, none⟩) (n + 1) (n + 1)] ∧ Blk w'.heap bF 3 ((gA (n + 1) (cN (a.ed.take z))).map (Value.int .i64))) (fun z => a.ed.length - z) (by rfl) 0 ⟨rfl, trivial⟩
    ⟨Nat.zero_le _, hs6, hB3, hBF⟩ ?_
  rintro k g w7 ⟨hk, hs7, hB37, hBF7⟩
  refine W_seq <| W_region (by rfl) ?_
  refine x (r_lss rfl rfl) <| xe ?_
  refine W_seq <| W_ifn rfl (fun h17 => ?_) (fun h17 => ?_)
  · refine W_exit ?_
    have hke : a.ed.length ≤ k := by have h18 : ¬ (k : Int) < (a.ed.length : Int) := h17; omega
    rw [List.take_of_length_le hke, mX_zero hed0 (n + 1)] at hBF7
    refine W_seq <| W_seq <| W_region (by rfl) ?_
    refine x (r_fieldB rfl) <| x (r_loadB (hB12.ext hs7) rfl rfl) <| x r_move <| xe ?_
    refine W_block <| W_loop (α := Nat) [(6, 6), (32, 48)] (fun z => [(32, .int .i64 z)]) (fun z w' => z ≤ n ∧ Step [] w2 w' ∧ Blk w'.heap b3 89 [va, .int .i64 a.st, vm, ve, .slice (some ⟨bF, 0, none⟩) (n + 1) (n + 1)] ∧ Blk w'.heap bF 3 ((gA (n + 1) (mX a.ed z)).map (Value.int .i64))) (fun z => n - z) (by rfl) 0 ⟨rfl, trivial⟩
      ⟨Nat.zero_le _, hs7, hB37, hBF7⟩ ?_
    rintro j g w8 ⟨hj, hs8, hB38, hBF8⟩
    refine W_seq <| W_region (by rfl) ?_
    refine x (r_lss rfl rfl) <| xe ?_
    refine W_seq <| W_ifn rfl (fun h33 => ?_) (fun h33 => ?_)
    · refine W_exit ?_
      have hje : n ≤ j := by have h34 : ¬ (j : Int) < a.st := h33; omega
      have hjn : j = n := by omega
      rw [hjn] at hBF8
      have hmx : gA (n + 1) (mX a.ed n) = gA (n + 1) (fS a.ed) := gA_congr fun i hi => by unfold mX; rw [if_pos (by omega)]
      rw [hmx] at hBF8
      refine W_seq <| W_region (by rfl) ?_
      refine x (r_loadsB hB38 rfl rfl) <| xl rfl <| o_stores (us := [va, .int .i64 a.st, vm, ve, .slice (some ⟨bF, 0, none⟩) (n + 1) (n + 1)]) (hB2.ext hs8) rfl rfl rfl rfl ⟨h.al.one, rfl, h.mr.one, h.ed.one, rfl, trivial⟩ fun w9 hs9 hB9 => xe ?_
      have hz1 := hs1.size
      have hz12 := hs12.size
      refine W_ret ⟨[_], ⟨⟨_, rfl, run_loadVar_ag rfl (hB9.at (L := []) (by simp)).cells⟩, trivial⟩, ((hs1.trans hs2).trans hs8).then1 hs9 (by omega), bF, rfl, by omega, hBF8.step hs9 (by simp; omega)⟩
    have hjn : j < n := by have h34 : (j : Int) < a.st := h33; omega
    have hmj := cnE_le (fun e : Ed => decide (e.1 < (j : Int))) a.ed
    have hmj' := cnE_le (fun e : Ed => decide (e.1 + 1 = ((j + 1 : Nat) : Int))) a.ed
    have hv1 : mX a.ed j (j + 1) = cN a.ed (j + 1) := by unfold mX; rw [if_neg (by omega)]
    have hv0 : mX a.ed j j = fS a.ed j := by unfold mX; rw [if_pos (Nat.le_refl _)]
    have hb1 : 0 ≤ mX a.ed j (j + 1) ∧ mX a.ed j (j + 1) ≤ 1099511627776 := by rw [hv1]; unfold cN; omega
    have hb0 : 0 ≤ mX a.ed j j ∧ mX a.ed j j ≤ 1099511627776 := by rw [hv0]; unfold fS; omega
    refine W_skip ?_
    refine W_seq <| W_block <| W_seq <| W_region (by rfl) ?_
    refine x r_move <| x r_assign <| xe ?_
    refine W_draw (Step [] w8) [(0, true), (1, true), (2, true), (3, true), (4, true), (5, true), (6, true), (7, true), (8, true), (9, true), (10, true), (11, true), (12, true), (13, false)] Tryz.mixed (by rfl) (by kernel_rfl) (Step.drew _ _) ?_
    refine p (fun _ => r_fieldB rfl) <| pq (fun _ hc => r_loadB (hB38.ext hc) rfl rfl) <| p (fun _ => r_move) <| p (fun _ => r_add rfl rfl ⟨by omega, by omega⟩) <|
      p (fun _ => r_indexB (i := j + 1) rfl rfl (by omega)) <| pq (fun _ hc => r_loadG (i := j + 1) (hBF8.ext hc) rfl (by omega)) <| p (fun _ => r_fieldB rfl) <| pq (fun _ hc => r_loadB (hB38.ext hc) rfl rfl) <|
      p (fun _ => r_move) <| p (fun _ => r_indexB (i := j) rfl rfl (by omega)) <| pq (fun _ hc => r_loadG (i := j) (hBF8.ext hc) rfl (by omega)) <| p (fun _ => r_add rfl rfl ⟨by omega, by omega⟩) <|
      p (fun _ => r_indexB (i := j + 1) rfl rfl (by omega)) <| pkl (hl := by kernel_rfl) <| o_storeG (i := j + 1) (hBF8.ext (Step.drew [] w8)) rfl rfl (by omega) (mX_next a.ed j (n + 1)) fun w9 hs9 hBF9 => pe ?_
    refine W_region (by rfl) ?_
    refine x (r_add rfl rfl ⟨by omega, by omega⟩) <| x r_move <| xe ?_
    exact ⟨j + 1, by omega, ⟨rfl, trivial⟩, hjn, (hs8.trans (Step.drew [] w8)).then1 hs9 hbF, (hB38.ext (Step.drew [] w8)).step hs9 (by simp; omega), hBF9⟩
  have hlt : k < a.ed.length := by have h18 : (k : Int) < (a.ed.length : Int) := h17; omega
  have htk : a.ed.take (k + 1) = a.ed.take k ++ [a.ed[k]'hlt] := List.take_succ_eq_append_getElem hlt
  have hek := hed _ (List.getElem_mem hlt)
  refine exE (a.ed[k]'hlt) fun e he => ?_
  rw [he] at htk hek
  have hfr : e.1 + 1 = ((e.1.toNat + 1 : Nat) : Int) := by omega
  have hst := cN_next (a.ed.take k) e hek.1 (n + 1)
  have hcl := cnE_le (fun d : Ed => decide (d.1 + 1 = ((e.1.toNat + 1 : Nat) : Int))) (a.ed.take k)
  have hcl' : 0 ≤ cN (a.ed.take k) (e.1.toNat + 1) ∧ cN (a.ed.take k) (e.1.toNat + 1) ≤ 1099511627776 := by unfold cN; rw [List.length_take] at hcl; omega
  refine W_skip ?_
  refine W_seq <| W_block <| W_seq <| W_region (by rfl) ?_
  refine xie (h2.ed.ext hs7) rfl rfl hlt fun a18 h18 => ?_
  rw [he] at h18
  refine x (r_loadsA h18 rfl rfl) <| xl rfl <| o_alloc (us := [.int .i64 0, .int .i64 0, .int .i64 0]) rfl fun b5 w8 hs8 hb5 hB5 => xl rfl <| o_stores (us := edCells e) hB5 rfl rfl rfl rfl ⟨rfl, rfl, rfl, trivial⟩ fun w9 hs9 hB5' => xe ?_
  have hs79 : Step [] w7 w9 := hs8.then1 hs9 hb5
  refine W_region (by rfl) ?_
  refine x (r_fieldB rfl) <| x (r_loadB (hB37.ext hs79) rfl rfl) <| x (r_fieldB rfl) <| x (r_loadB hB5' rfl rfl) <| x (r_add rfl rfl ⟨by omega, by omega⟩) <| x (r_indexB (i := e.1.toNat + 1) rfl (congrArg (Value.int .i64) hfr) (by omega)) <|
    x (r_loadG (i := e.1.toNat + 1) (hBF7.ext hs79) rfl (by omega)) <| x (r_add rfl rfl ⟨by omega, by omega⟩) <| x (r_indexB (i := e.1.toNat + 1) rfl (congrArg (Value.int .i64) hfr) (by omega)) <|
    xl rfl <| o_storeG (i := e.1.toNat + 1) (hBF7.ext hs79) rfl rfl (by omega) hst fun w10 hs10 hBF10 => xe ?_
  refine W_region (by rfl) ?_
  refine x (r_add rfl rfl ⟨by omega, by omega⟩) <| x r_move <| xe ?_
  refine ⟨k + 1, by omega, ⟨rfl, trivial⟩, hlt, (hs7.trans hs79).then1 hs10 hbF, (hB37.ext hs79).step hs10 (by simp; omega), ?_⟩
  rw [htk]; exact hBF10
end Go.Proofs.YtfhgnlkdcdlblaaGreatDoor
/- Queues: an owned slice whose head is cut off, and to whose end is appended. -/
namespace Go.Lg
open Go.RowKit

def ownsQ (w : World) (base e sz : Nat) (v : Value) (n : Nat) (cs : List Value) : Prop :=
  cs.length = n * sz ∧ ((v = .slice none 0 0 ∧ n = 0) ∨ ∃ g off cap cur, v = .slice (some ⟨g, off, none⟩) n cap ∧ base ≤ g ∧ w.heap[g]? = some (.cells cur e (0, 0)) ∧ n ≤ cap ∧ cap ≤ maxLen ∧ off + cap * sz ≤ cur.size ∧ (cur.toList.drop off).take (n * sz) = cs)
theorem ownsQ.of_row {w : World} {base e sz n : Nat} {v : Value} {cs : List Value} (h : w.ownsRow base e sz v n cs) : ownsQ w base e sz v n cs :=
  ⟨h.1, h.2.imp id fun ⟨g, cap, cur, h1, h2, h3, h4, h5, h6, h7⟩ => ⟨g, 0, cap, cur, h1, h2, h3, h4, h5, by omega, by simpa using h7⟩⟩
theorem q_step {X : List Nat} {w w' : World} {base e sz n : Nat} {v : Value} {cs : List Value} (h : ownsQ w base e sz v n cs) (hs : Step X w w') (hX : ∀ b ∈ ob v, b ∉ X) : ownsQ w' base e sz v n cs := by
  refine ⟨h.1, h.2.imp id fun ⟨g, off, cap, cur, h1, h2, h3, h4⟩ => ⟨g, off, cap, cur, h1, h2, ?_, h4⟩⟩
  rw [hs.block g (Array.getElem?_eq_some_iff.1 h3).1 (hX g (by rw [h1]; simp [ob]))]; exact h3
theorem q_ext {w w' : World} {base e sz n : Nat} {v : Value} {cs : List Value} (h : ownsQ w base e sz v n cs) (hs : Step [] w w') : ownsQ w' base e sz v n cs := q_step h hs (fun _ _ => by simp)
theorem q_ge {w : World} {base e sz n : Nat} {v : Value} {cs : List Value} (h : ownsQ w base e sz v n cs) : ∀ b ∈ ob v, base ≤ b ∧ b < w.heap.size := by
  intro b hb
  rcases h.2 with ⟨h1, _⟩ | ⟨g, off, cap, cur, h1, h2, h3, _⟩
  · subst h1; simp [ob] at hb
  · subst h1; simp [ob] at hb; subst hb; exact ⟨h2, (Array.getElem?_eq_some_iff.1 h3).1⟩
theorem q_cells {w : World} {g off e n : Nat} {cur : Array Value} {cs : List Value} (h3 : w.heap[g]? = some (.cells cur e (0, 0))) (h7 : (cur.toList.drop off).take n = cs) : ∀ j u, cs[j]? = some u → w.cell? ((⟨g, off, none⟩ : Addr).add j) = some u := by
  intro j u hu
  rw [cel_world, lit_add']
  unfold cel; simp only [h3]
  rw [← h7, List.getElem?_take] at hu
  split at hu
  · simpa using hu
  · cases hu
theorem q_arr {L : List Nat} {w : World} {base e sz n : Nat} {v : Value} {cs : List Value} (h : ownsQ w base e sz v n cs) (hn : n ≤ 1099511627776) (hL : ∀ b ∈ ob v, b ∉ L) : Arr L w.heap v n sz cs := by
  refine ⟨h.1, hn, ?_⟩
  rcases h.2 with h1 | ⟨g, off, cap, cur, h1, h2, h3, h4, h5, h6, h7⟩
  · exact .inl h1
  · exact .inr ⟨_, _, h1, h4, hL g (by rw [h1]; simp [ob]), (Array.getElem?_eq_some_iff.1 h3).1, fun j u hu => q_cells h3 h7 j u hu⟩
section
variable {P : Program} {K : Fr → World → Prop} {f : Fr} {w : World} {d : Option Nat} {ty : Nat} {ps : String} {af : Array Edge} {gd : Option (Nat × Bool)} {ops l : List Oper}
theorem xslQ {t e sz bys : Nat} {z : Value} [h : Sl P t e sz bys z] {x y1 : Operand} {base : Nat} {v : Value} {n : Nat} {cs : List Value} {k : IntKind} {lo : Nat} (hown : ownsQ w base e sz v n cs) (hx : ev f x = v) (hl : ev f y1 = .int k lo) (h1 : lo ≤ n)
    (hK : ∀ v', ownsQ w base e sz v' (n - lo) (cs.drop (lo * sz)) → ob v' = ob v → XL P ops K l (putF f d v') w)
    (hg : gdF ops f ⟨d, .slice t x (some y1) none none, ty, ps, af, gd⟩ = true := by rfl) : XL P ops K (⟨d, .slice t x (some y1) none none, ty, ps, af, gd⟩ :: l) f w := by
  obtain ⟨i, hi', _, hsz, _⟩ := Sl.info h
  rcases hown.2 with ⟨hv, hn⟩ | ⟨g, off, cap, cur, hv, h2, h3, h4, h5, h6, h7⟩
  · have e2 : lo = 0 := by omega
    subst e2 hn hv
    have hcs : cs = [] := List.eq_nil_of_length_eq_zero (by simpa using hown.1)
    subst hcs
    refine xl hg (xv (v := .slice none 0 0) ?_ (hK _ ⟨by simp, .inl ⟨rfl, rfl⟩⟩ rfl))
    simp [execOp, hx, hl, Instr.sliceAt, Instr.slice, run_underlying h.u, Instr.sliceBounds, Instr.sliceBound, asIntOf, sizeOf, typeInfo, hi']
  · subst hv
    have e2 : (Instr.sliceBound (.int k lo) n .sliceB).run P w = .ok lo w := run_sliceBound h1
    have hr : (execOp (ev f) ⟨d, .slice t x (some y1) none none, ty, ps, af, gd⟩).run P w = .ok (.value (.slice (if cap = lo then some ⟨g, off, none⟩ else some ((⟨g, off, none⟩ : Addr).add (lo * sz))) (n - lo) (cap - lo))) w := by
      simp [execOp, hx, hl, Instr.sliceAt, Instr.slice, run_underlying h.u, Instr.sliceBounds, e2, sizeOf, typeInfo, hi', hsz]
    have hlen : (cs.drop (lo * sz)).length = (n - lo) * sz := by rw [List.length_drop, hown.1, ← Nat.sub_mul]
    by_cases hc : cap = lo
    · rw [if_pos hc] at hr
      have hnl : n - lo = 0 := by omega
      refine xl hg (xv hr (hK _ ⟨hlen, .inr ⟨g, off, cap - lo, cur, rfl, h2, h3, by omega, by omega, ?_, ?_⟩⟩ rfl))
      · have : (cap - lo) * sz ≤ cap * sz := Nat.mul_le_mul_right _ (by omega)
        omega
      · rw [hnl] at hlen ⊢
        have : cs.drop (lo * sz) = [] := List.eq_nil_of_length_eq_zero (by simpa using hlen)
        rw [this]; simp
    · rw [if_neg hc, lit_add'] at hr
      refine xl hg (xv hr (hK _ ⟨hlen, .inr ⟨g, off + lo * sz, cap - lo, cur, rfl, h2, h3, by omega, by omega, ?_, ?_⟩⟩ rfl))
      · rw [Nat.sub_mul]
        have : lo * sz ≤ cap * sz := Nat.mul_le_mul_right _ (by omega)
        omega
      · rw [← h7, List.drop_take, List.drop_drop, ← Nat.sub_mul]
theorem run_append_q {base t ty e : Nat} {sz bys : Nat} {z : Value} [h : Sl P t e sz bys z] {v : Value} {n : Nat} {cs : List Value} (hown : ownsQ w base e sz v n cs)
    {a : Addr} {m c : Nat} {news : List Value} (hl : news.length = m * sz) (hm : 0 < m) (hnews : ∀ j u, news[j]? = some u → w.cell? (a.add j) = some u) (h1 : ∀ u ∈ news, u.oneCell' = true)
    (hb : n + m ≤ 1099511627776) (hby : bys ≤ 128) (hbase : base ≤ w.heap.size) :
    ∃ v' w', (Builtin.append_ #[t, t] ty #[v, .slice (some a) m c]).run P w = .ok v' w' ∧ ownsQ w' base e sz v' (n + m) (cs ++ news) ∧ Step (ob v) w w' ∧ (∀ b ∈ ob v', b ∈ ob v ∨ w.heap.size ≤ b) := by
  obtain ⟨i, hi, hz, hsz, hbys⟩ := Sl.info h
  have hbytes : (n + m) * bys ≤ 140737488355328 := Nat.le_trans (Nat.mul_le_mul hb hby) (by omega)
  have h63 : n + m ≤ maxLen := by simp only [maxLen]; omega
  have new : ∀ (old : Nat), ∀ o', o' = (Obj.cells (cs.toArray ++ news.toArray ++ Builtin.zeroCells z.cells (grownCap w (n + m) old e - (n + m))) e) →
        ownsQ (w.drew.alloc o') base e sz (.slice (some ⟨w.heap.size, 0, none⟩) (n + m) (grownCap w (n + m) old e)) (n + m) (cs ++ news) := by
      intro old o' ho'
      subst ho'
      have hge := grownCap_ge w (n + m) old e
      have hcm : grownCap w (n + m) old e ≤ maxLen := grownCap_le_maxLen w (n + m) old e h63
      have hlen : (cs ++ news).length = (n + m) * sz := by rw [List.length_append, hown.1, hl, Nat.add_mul]
      refine ownsQ.of_row ⟨hlen, .inr ⟨w.heap.size, _, _, rfl, hbase, al_new w.drew _, hge, hcm, ?_, ?_⟩⟩
      · simp only [Array.size_append, List.size_toArray, size_zeroCells, h.zs, hown.1, hl, ← Nat.add_mul]
        congr 1; omega
      · simp only [Array.toList_append, List.append_assoc]
        rw [← List.append_assoc, ← hlen]
        exact List.take_left
  have stp : ∀ o', Step (ob v) w (w.drew.alloc o') := fun o' => ⟨rfl, rfl, rfl, by rw [al_size]; exact Nat.le_succ _, fun k hk _ => al_old w.drew o' k hk⟩
  have fin : ∀ (b : Nat), b ∈ ob (.slice (some ⟨w.heap.size, 0, none⟩) (n + m) 0) → b ∈ ob v ∨ w.heap.size ≤ b := fun b hb' => by simp [ob] at hb'; omega
  rcases hown.2 with ⟨rfl, rfl⟩ | ⟨g, off, cap, cur, rfl, hbg, hgg, hnc, hcm, hcs, htake⟩
  · have hx : cs = [] := List.eq_nil_of_length_eq_zero (by simpa using hown.1)
    subst hx
    have hr := run_append_nil (P := P) w t ty e i z h.u hi hz a m c news (by rw [hsz]; exact hl) hnews hm (by omega) (by rw [hbys]; have hb2 := hbytes; simp only [Nat.zero_add] at hb2; omega)
    have hn := new 0 _ rfl
    simp only [Nat.zero_add, List.nil_append, Array.empty_append] at hn ⊢
    exact ⟨_, _, hr, hn, stp _, fun b hb' => fin b hb'⟩
  · rcases Nat.lt_or_ge cap (n + m) with hroom | hroom
    · have holds := q_cells (w := w) hgg htake
      have hr := run_append_grow (P := P) w t ty e i z h.u hi hz ⟨g, off, none⟩ n cap cs (by rw [hsz]; exact hown.1) holds a m c news (by rw [hsz]; exact hl) hnews hroom (by omega) (growslice_fits hroom (by rw [hbys]; exact hbytes))
      exact ⟨_, _, hr, new cap _ rfl, stp _, fun b hb' => fin b hb'⟩
    · have hfit : off + n * i.size + news.length ≤ cur.size := by
        rw [hl, hsz]
        have : (n + m) * sz ≤ cap * sz := Nat.mul_le_mul_right _ hroom
        rw [Nat.add_mul] at this; omega
      have hf := run_firstCells_some (P := P) w i.size m a m c news (by rw [hsz]; exact hl) hnews
      have hst := run_storeCells_at P g (off + n * i.size) e news 0 cur w hgg (by simpa using hfit) h1
      simp only [Nat.add_zero] at hst
      have hr : (Builtin.append_ #[t, t] ty #[.slice (some ⟨g, off, none⟩) n cap, .slice (some a) m c]).run P w =
          .ok (.slice (some ⟨g, off, none⟩) (n + m) cap) (w.setRow g (cur.toList.take (off + n * i.size) ++ news ++ cur.toList.drop (off + n * i.size + news.length)).toArray) := by
        simp [Builtin.append_, run_underlying h.u, sizeOf, typeInfo, hi, Builtin.lenOf, hroom, hf, lit_add', hst]
      refine ⟨_, _, hr, ⟨by rw [List.length_append, hown.1, hl, Nat.add_mul], .inr ⟨g, off, cap, _, rfl, hbg, setRow_heap w g _ _ e (0, 0) hgg, hroom, hcm, ?_, ?_⟩⟩, ?_, fun b hb' => .inl hb'⟩
      · simp only [List.size_toArray, List.length_append, List.length_take, List.length_drop, Array.length_toList]
        omega
      · have hsz' : cur.toList.length = cur.size := Array.length_toList
        rw [hsz] at hfit ⊢
        have e1 : (cur.toList.take (off + n * sz)).drop off = cs := by
          rw [List.drop_take, show off + n * sz - off = n * sz by omega]; exact htake
        have e2 : (List.toArray (cur.toList.take (off + n * sz) ++ news ++ cur.toList.drop (off + n * sz + news.length))).toList.drop off = cs ++ news ++ cur.toList.drop (off + n * sz + news.length) := by
          show (cur.toList.take (off + n * sz) ++ news ++ cur.toList.drop (off + n * sz + news.length)).drop off = _
          rw [List.append_assoc, List.drop_append_of_le_length (by rw [List.length_take]; omega), e1, List.append_assoc]
        rw [e2]
        have hlen : (cs ++ news).length = (n + m) * sz := by rw [List.length_append, hown.1, hl, Nat.add_mul]
        rw [← hlen]
        exact List.take_left
      · exact Step.setRow w g _
theorem o_appQ {t e sz bys : Nat} {z : Value} [h : Sl P t e sz bys z] {s y : Operand} {base : Nat} {v : Value} {n : Nat} {cs : List Value} (hown : ownsQ w base e sz v n cs) (hs : ev f s = v)
    {a : Addr} {m c : Nat} {news : List Value} (hy : ev f y = .slice (some a) m c) (hl : news.length = m * sz) (hm : 0 < m) {L : List Nat} (hsrc : At L w.heap a news) (h1 : ∀ u ∈ news, u.oneCell' = true)
    (hb : n + m ≤ 1099511627776) (hbase : base ≤ w.heap.size)
    (hK : ∀ v' w', ownsQ w' base e sz v' (n + m) (cs ++ news) → Step (ob v) w w' → (∀ b ∈ ob v', b ∈ ob v ∨ w.heap.size ≤ b) → K (putF f d v') w') (hby : bys ≤ 128 := by decide) :
    XO P ⟨d, .call ⟨.builtin .append, #[s, y], #[t, t]⟩, ty, ps, af, gd⟩ f w K := by
  obtain ⟨v', w', hr, h2, h3, h4⟩ := run_append_q (P := P) (t := t) (ty := ty) hown hl hm hsrc.cells h1 hb hby hbase (c := c)
  have hr' : (execOp (ev f) ⟨d, .call ⟨.builtin .append, #[s, y], #[t, t]⟩, ty, ps, af, gd⟩).run P w = .ok (.value v') w' := by
    simp [execOp, resolve, invoke, builtin, hs, hy, hr]
  exact xv hr' (hK v' w' h2 h3 h4)
end
abbrev IntsQ (e base : Nat) (w : World) (v : Value) (l : List Int) : Prop := ownsQ w base e 1 v l.length (l.map (.int .i64))
theorem IntsQ.snoc {e base : Nat} {w : World} {v : Value} {l : List Int} {n : Int} (h : ownsQ w base e 1 v (l.length + 1) (l.map (Value.int .i64) ++ [.int .i64 n])) : IntsQ e base w v (l ++ [n]) := by
  unfold IntsQ; simpa using h
theorem IntsQ.tail {e base : Nat} {w : World} {v : Value} {s : Int} {l : List Int} (h : ownsQ w base e 1 v ((s :: l).length - 1) (((s :: l).map (Value.int .i64)).drop (1 * 1))) : IntsQ e base w v l := by
  unfold IntsQ; simpa using h
end Go.Lg
/- reach.backward: the distances to some states, as plain functions; rows of lists that grow. -/
namespace Go.Proofs.YtfhgnlkdcdlblaaGreatDoor
open Go.Lg

/-! ### Rows -/
def updF {α : Type} (f : Nat → α) (i : Nat) (x : α) : Nat → α := fun j => if j = i then x else f j
theorem updF_same {α : Type} (f : Nat → α) (i : Nat) (x : α) : updF f i x i = x := by simp [updF]
theorem updF_ne {α : Type} (f : Nat → α) {i j : Nat} (x : α) (h : j ≠ i) : updF f i x j = f j := by simp [updF, h]
theorem updF_map {α β : Type} (k : α → β) (n : Nat) (f : Nat → α) (i : Nat) (x : α) : ((List.range n).map fun j => k (f j)).set i (k x) = (List.range n).map fun j => k (updF f i x j) := by
  apply List.ext_getElem
  · simp
  · intro j h1 h2
    rw [List.getElem_set]
    by_cases e : i = j
    · subst e; simp [updF_same]
    · rw [if_neg e]; simp [updF_ne _ _ (Ne.symm e)]
structure RowsF (base : Nat) (w : World) (n : Nat) (f : Nat → Value) (g : Nat → List Int) : Prop where
  own : ∀ i, i < n → IntsO 3 base w (f i) (g i)
  dj : ∀ i j, i < n → j < n → i ≠ j → Dj (f i) (f j)
theorem RowsF.app {base n i : Nat} {w w' : World} {f : Nat → Value} {g : Nat → List Int} {v' : Value} {l : List Int} (h : RowsF base w n f g) (hi : i < n) (ho : IntsO 3 base w' v' l) (hs : Step (ob (f i)) w w')
    (hn : ∀ b ∈ ob v', b ∈ ob (f i) ∨ w.heap.size ≤ b) : RowsF base w' n (updF f i v') (updF g i l) := by
  refine ⟨fun j hj => ?_, fun j k hj hk hjk => ?_⟩
  · by_cases e : j = i
    · subst e; rw [updF_same, updF_same]; exact ho
    · rw [updF_ne _ _ e, updF_ne _ _ e]
      exact own_step (h.own j hj) hs (h.dj j i hj hi e)
  · have key : ∀ j, j < n → j ≠ i → Dj v' (f j) := fun j hj e b hb hbj => by
      rcases hn b hb with h1 | h1
      · exact h.dj i j hi hj (Ne.symm e) b h1 hbj
      · have := own_lt (h.own j hj) b hbj; omega
    by_cases e1 : j = i
    · subst e1
      rw [updF_same, updF_ne _ _ (Ne.symm hjk)]
      exact key k hk (Ne.symm hjk)
    · rw [updF_ne _ _ e1]
      by_cases e2 : k = i
      · subst e2; rw [updF_same]; exact (key j hj e1).symm
      · rw [updF_ne _ _ e2]; exact h.dj j k hj hk hjk
theorem RowsF.step {base n : Nat} {X : List Nat} {w w' : World} {f : Nat → Value} {g : Nat → List Int} (h : RowsF base w n f g) (hs : Step X w w') (hX : ∀ i, i < n → ∀ b ∈ ob (f i), b ∉ X) : RowsF base w' n f g :=
  ⟨fun i hi => own_step (h.own i hi) hs (hX i hi), h.dj⟩
theorem RowsF.ext {base n : Nat} {w w' : World} {f : Nat → Value} {g : Nat → List Int} (h : RowsF base w n f g) (hs : Step [] w w') : RowsF base w' n f g := h.step hs (fun _ _ _ _ => by simp)

/-! ### Plain -/
/-- The states from which an edge leads to s. -/
def intoL (es : List Ed) (s : Nat) : List Int := (es.filter fun e => decide (e.2.2 = (s : Int))).map (·.1)
theorem intoL_snoc (es : List Ed) (e : Ed) (h0 : 0 ≤ e.2.2) : ∀ s, updF (intoL es) e.2.2.toNat (intoL es e.2.2.toNat ++ [e.1]) s = intoL (es ++ [e]) s := by
  intro s
  unfold intoL
  rw [List.filter_append, List.map_append]
  by_cases h : s = e.2.2.toNat
  · subst h
    rw [updF_same]
    have : e.2.2 = (e.2.2.toNat : Int) := by omega
    simp [← this]
  · rw [updF_ne _ _ h]
    have : ¬ e.2.2 = (s : Int) := by omega
    simp [this]
theorem intoL_mem {es : List Ed} {s : Nat} {p : Int} (h : p ∈ intoL es s) : ∃ e ∈ es, e.1 = p ∧ e.2.2 = (s : Int) := by
  unfold intoL at h
  simp only [List.mem_map, List.mem_filter, decide_eq_true_eq] at h
  obtain ⟨e, ⟨h1, h2⟩, h3⟩ := h
  exact ⟨e, h1, h3, h2⟩
theorem intoL_len (es : List Ed) (s : Nat) : (intoL es s).length ≤ es.length := by
  unfold intoL; rw [List.length_map]; exact List.length_filter_le _ _
def bwE (s : Int) (st : List Int × List Int) (p : Int) : List Int × List Int := if cget st.1 p.toNat < 0 then (st.1.set p.toNat (cget st.1 s.toNat + 1), st.2 ++ [p]) else st
def bwL (es : List Ed) : Nat → List Int → List Int → List Int
  | 0, o, _ => o
  | _ + 1, o, [] => o
  | f + 1, o, s :: q => bwL es f ((intoL es s.toNat).foldl (bwE s) (o, q)).1 ((intoL es s.toNat).foldl (bwE s) (o, q)).2
def bw0 (n : Nat) (to : List Int) : List Int := (List.range n).map fun i : Nat => if (i : Int) ∈ to then 0 else -1
/-- The distances (-1: never). -/
def bwd (n : Nat) (es : List Ed) (to : List Int) : List Int := bwL es (n + to.length) (bw0 n to) to
theorem bwL_nil (es : List Ed) (f : Nat) (o : List Int) : bwL es f o [] = o := by cases f <;> rfl
/-- What holds of the search. -/
structure BwOk (n : Nat) (o q : List Int) : Prop where
  len : o.length = n
  q : ∀ x ∈ q, 0 ≤ x ∧ x < (n : Int)
  le : ∀ x ∈ o, -1 ≤ x ∧ x + (neg o : Int) ≤ n
theorem neg_le (l : List Int) : neg l ≤ l.length := List.length_filter_le _ _
theorem bwE_ok {n : Nat} {s p : Int} {st : List Int × List Int} (h : BwOk n st.1 st.2) (hs : 0 ≤ s ∧ s < (n : Int)) (hos : 0 ≤ cget st.1 s.toNat) (hp : 0 ≤ p ∧ p < (n : Int)) :
    BwOk n (bwE s st p).1 (bwE s st p).2 ∧ neg (bwE s st p).1 + (bwE s st p).2.length = neg st.1 + st.2.length ∧ 0 ≤ cget (bwE s st p).1 s.toNat := by
  unfold bwE
  have hl := h.len
  have hpl : p.toNat < st.1.length := by omega
  have hsl : s.toNat < st.1.length := by omega
  by_cases hc : cget st.1 p.toNat < 0
  · rw [if_pos hc]
    have hc' : st.1[p.toNat]'hpl < 0 := by rw [cget_eq hpl]; exact hc
    have hv := h.le _ (cget_mem hsl)
    have hng := neg_set st.1 p.toNat (cget st.1 s.toNat + 1) hpl hc' (by omega)
    refine ⟨⟨by simp [hl], fun x hx => ?_, fun x hx => ?_⟩, ?_, ?_⟩
    · simp only [List.mem_append, List.mem_singleton] at hx
      rcases hx with hx | rfl
      · exact h.q x hx
      · exact hp
    · simp only [] at hx ⊢
      rcases List.mem_or_eq_of_mem_set hx with h1 | h1
      · have := h.le x h1; omega
      · subst h1; omega
    · simp only [List.length_append, List.length_singleton]; omega
    · simp only []
      have hne : s.toNat ≠ p.toNat := fun e => by rw [e] at hos; omega
      have : cget (st.1.set p.toNat (cget st.1 s.toNat + 1)) s.toNat = cget st.1 s.toNat := by
        unfold cget; simp [List.getD, List.getElem?_set_ne (Ne.symm hne)]
      rw [this]; exact hos
  · rw [if_neg hc]
    exact ⟨h, rfl, hos⟩
theorem bw0_len (n : Nat) (to : List Int) : (bw0 n to).length = n := by simp [bw0]
theorem bw0_ok {n : Nat} {to : List Int} (h : ∀ x ∈ to, 0 ≤ x ∧ x < (n : Int)) : BwOk n (bw0 n to) to := by
  refine ⟨bw0_len n to, h, fun x hx => ?_⟩
  have hn := neg_le (bw0 n to)
  rw [bw0_len] at hn
  unfold bw0 at hx
  simp only [List.mem_map] at hx
  obtain ⟨i, _, rfl⟩ := hx
  split <;> omega
theorem bw0_get {n : Nat} {to : List Int} {x : Int} (h : 0 ≤ x ∧ x < (n : Int)) (hx : x ∈ to) : cget (bw0 n to) x.toNat = 0 := by
  have h1 : x.toNat < (bw0 n to).length := by rw [bw0_len]; omega
  rw [← cget_eq h1]
  have : ((x.toNat : Nat) : Int) = x := by omega
  simp [bw0, this, hx]
/-- Every state that waits has its distance. -/
def Set0 (o q : List Int) : Prop := ∀ x ∈ q, 0 ≤ cget o x.toNat
theorem bwE_set0 {n : Nat} {s p : Int} {st : List Int × List Int} (h : BwOk n st.1 st.2) (hos : 0 ≤ cget st.1 s.toNat) (hp : 0 ≤ p ∧ p < (n : Int)) (h0 : Set0 st.1 st.2) : Set0 (bwE s st p).1 (bwE s st p).2 := by
  unfold bwE
  have hpl : p.toNat < st.1.length := by have := h.len; omega
  by_cases hc : cget st.1 p.toNat < 0
  · rw [if_pos hc]
    intro x hx
    simp only [] at hx ⊢
    have e1 : cget (st.1.set p.toNat (cget st.1 s.toNat + 1)) x.toNat = if x.toNat = p.toNat then cget st.1 s.toNat + 1 else cget st.1 x.toNat := by
      by_cases e : x.toNat = p.toNat
      · rw [if_pos e, e]; unfold cget; simp [List.getD, hpl]
      · rw [if_neg e]; unfold cget; simp [List.getD, List.getElem?_set_ne (Ne.symm e)]
    rw [e1]
    split
    · omega
    · rename_i e
      simp only [List.mem_append, List.mem_singleton] at hx
      rcases hx with hx | rfl
      · exact h0 x hx
      · exact absurd rfl e
  · rw [if_neg hc]; exact h0
end Go.Proofs.YtfhgnlkdcdlblaaGreatDoor
/- Contracts: reach.backward, Coreachable. -/
namespace Go.Proofs.YtfhgnlkdcdlblaaGreatDoor
open Go.Lg

theorem rows_nil (n : Nat) : (List.replicate n (Value.slice none 0 0).cells.toList).flatten = (List.range n).map (fun _ => Value.slice none 0 0) := by
  apply List.ext_getElem
  · simp [Value.cells]
  · intro i h1 h2
    simp [Value.cells]
theorem ints_zero (n : Nat) : (List.replicate n (Value.int .i64 0).cells.toList).flatten = (gA n (fun j => if j < 0 then -1 else 0)).map (Value.int .i64) := by
  apply List.ext_getElem
  · simp [Value.cells, gA]
  · intro i h1 h2
    simp [Value.cells, gA]
theorem rows_get {rv : Nat → Value} {n i : Nat} (hi : i < n) : ((List.range n).map rv)[0 + i * 1]? = some (rv i) := by simp [hi]
theorem backward_ok {w : World} {va vm ve vf vt : Value} {a : Aut} {n : Nat} {to : List Int} (h : AutA [] w.heap va vm ve a) (hn : a.st = (n : Int)) (hst1 : a.st ≤ 4096) (hed : ∀ e ∈ a.ed, 0 ≤ e.1 ∧ e.1 < a.st ∧ 0 ≤ e.2.2 ∧ e.2.2 < a.st)
    (hel : a.ed.length ≤ 1000000) (hto : Ints [] w.heap vt to) (htb : ∀ s ∈ to, 0 ≤ s ∧ s < a.st) (htl : to.length ≤ 4096) :
    Ret Tryz.prog 38 [.agg #[va, .int .i64 a.st, vm, ve, vf], vt] w fun r w' => Step [] w w' ∧ ∃ b, r = .slice (some ⟨b, 0, none⟩) n n ∧ w.heap.size ≤ b ∧ Blk w'.heap b 3 ((bwd n a.ed to).map (Value.int .i64)) := by
  refine Ret.of_W Tryz.func38 rfl Tryz.ntmps38 Tryz.results38 (by simp) ?_
  refine W_seq <| W_region (by rfl) ?_
  refine xl rfl <| o_box (us := [va, .int .i64 a.st, vm, ve, vf]) rfl fun b2 w1 hs1 hb2 hB2 => x r_assign <| xe ?_
  refine W_seq <| W_region (by rfl) ?_
  refine x (r_fieldB rfl) <| x (r_fieldB rfl) <| x (r_loadB hB2 rfl rfl) <| xl rfl <| o_make (n := n) (congrArg (Value.int .i64) hn) (congrArg (Value.int .i64) hn) (by omega) fun bI w2 hs2 hbI hBI => x r_assign <| xe ?_
  rw [rows_nil] at hBI
  have hs12 := hs1.trans hs2
  have hz1 := hs1.size
  have hz2 := hs2.size
  have hlI := hBI.lt
  have hl2 := hB2.lt
  have htb' : ∀ s ∈ to, 0 ≤ s ∧ s < (n : Int) := fun s hs => by have := htb s hs; omega
  refine W_seq <| W_seq <| W_region (by rfl) ?_
  refine x (r_fieldB rfl) <| x (r_fieldB rfl) <| x (r_loadB (hB2.ext hs2) rfl rfl) <| x (r_lenA h.ed rfl) <| x r_move <| xe ?_
  refine W_block <| W_loop (α := Nat × (Nat → Value)) [(7, 7), (24, 41)] (fun z => [(24, .int .i64 z.1)]) (fun z w' => z.1 ≤ a.ed.length ∧ Step [bI] w2 w' ∧ Blk w'.heap bI 32 ((List.range n).map z.2) ∧ RowsF w2.heap.size w' n z.2 (intoL (a.ed.take z.1))) (fun z => a.ed.length - z.1) (by rfl) (0, fun _ => .slice none 0 0) ⟨rfl, trivial⟩
    ⟨Nat.zero_le _, Step.refl _ _, hBI, ⟨fun i _ => own_nil _ _ _ _, fun i j _ _ _ => Dj.nil _⟩⟩ ?_
  rintro ⟨k, rv⟩ g w3 ⟨hk, hs3, hBI3, hR3⟩
  simp only [] at hk hBI3 hR3
  have hz3 := hs3.size
  have hs23 : Step [] w1 w3 := hs2.then1 hs3 hbI
  refine W_seq <| W_region (by rfl) ?_
  refine x (r_lss rfl rfl) <| xe ?_
  refine W_seq <| W_ifn rfl (fun h25 => ?_) (fun h25 => ?_)
  · refine W_exit ?_
    have hke : a.ed.length ≤ k := by have h18 : ¬ (k : Int) < (a.ed.length : Int) := h25; omega
    rw [List.take_of_length_le hke] at hR3
    have hI3 : ∀ i, i < n → Ints [] w3.heap (rv i) (intoL a.ed i) := fun i hi => own_arr (hR3.own i hi) (by have := intoL_len a.ed i; omega) (by simp)
    have hto3 := (hto.ext hs1).ext hs23
    refine W_seq <| W_region (by rfl) ?_
    refine x (r_fieldB rfl) <| x (r_fieldB rfl) <| x (r_loadB (hB2.ext hs23) rfl rfl) <| xl rfl <| o_make (n := n) (congrArg (Value.int .i64) hn) (congrArg (Value.int .i64) hn) (by omega) fun bO w4 hs4 hbO hBO => x r_assign <| xe ?_
    rw [ints_zero] at hBO
    refine W_seq <| W_seq <| W_region (by rfl) ?_
    refine x r_move <| x (r_lenA (L := []) (hBO.arr (by simp) (n := n) (cap := n) (sz := 1) (by simp [gA]) (by omega) (Nat.le_refl _)) rfl) <| x r_move <| xe ?_
    refine W_block <| W_loop (α := Nat) [(9, 9), (48, 54)] (fun z => [(48, .int .i64 z)]) (fun z w' => z ≤ n ∧ Step [] w3 w' ∧ Blk w'.heap bO 3 ((gA n (fun j => if j < z then -1 else 0)).map (Value.int .i64))) (fun z => n - z) (by rfl) 0 ⟨rfl, trivial⟩ ⟨Nat.zero_le _, hs4, hBO⟩ ?_
    rintro j g w5 ⟨hj, hs5, hBO5⟩
    refine W_seq <| W_region (by rfl) ?_
    refine x (r_lss rfl rfl) <| xe ?_
    refine W_seq <| W_ifn rfl (fun h49 => ?_) (fun h49 => ?_)
    · refine W_exit ?_
      have hjn : j = n := by have h50 : ¬ (j : Int) < (n : Int) := h49; omega
      have hg0 : gA n (fun i => if i < j then -1 else 0) = gA n (fun i : Nat => if (i : Int) ∈ to.take 0 then 0 else -1) := gA_congr fun i hi => by rw [if_pos (by omega), if_neg (by simp)]
      rw [hg0] at hBO5
      refine W_seq <| W_region (by rfl) ?_
      refine x r_move <| xl rfl <| xf <| (clone_ok (hto3.ext hs5)).mono ?_
      rintro vq w6 ⟨hs6, hQ6⟩
      have hlO := hBO5.lt
      have hs36 := hs5.trans hs6
      have hz5 := hs5.size
      refine x r_assign <| xe ?_
      refine W_seq <| W_seq <| W_region (by rfl) ?_
      refine x r_move <| x (r_lenA (hto3.ext hs36) rfl) <| x r_move <| xe ?_
      refine W_block <| W_loop (α := Nat) [(12, 12), (59, 66)] (fun z => [(59, .int .i64 z)]) (fun z w' => z ≤ to.length ∧ Step [] w3 w' ∧ Blk w'.heap bO 3 ((gA n (fun i : Nat => if (i : Int) ∈ to.take z then 0 else -1)).map (Value.int .i64)) ∧ IntsO 3 w5.heap.size w' vq to ∧ w5.heap.size ≤ w'.heap.size) (fun z => to.length - z) (by rfl) 0 ⟨rfl, trivial⟩
        ⟨Nat.zero_le _, hs36, hBO5.ext hs6, hQ6, hs6.size⟩ ?_
      rintro i g w7 ⟨hi, hs7, hBO7, hQ7, hz7⟩
      refine W_seq <| W_region (by rfl) ?_
      refine x (r_lss rfl rfl) <| xe ?_
      refine W_seq <| W_ifn rfl (fun h60 => ?_) (fun h60 => ?_)
      · refine W_exit ?_
        have hie : to.length ≤ i := by have h61 : ¬ (i : Int) < (to.length : Int) := h60; omega
        rw [List.take_of_length_le hie] at hBO7
        have hBO7' : Blk w7.heap bO 3 ((bw0 n to).map (Value.int .i64)) := hBO7
        refine W_seq <| W_block <| W_loop (α := Nat × Value × List Int × List Int) [(10, 10), (13, 13), (15, 15), (67, 101)] (fun z => [(10, z.2.1)])
          (fun z w' => Step [] w3 w' ∧ w5.heap.size ≤ w'.heap.size ∧ Blk w'.heap bO 3 (z.2.2.1.map (Value.int .i64)) ∧ IntsQ 3 w5.heap.size w' z.2.1 z.2.2.2 ∧ BwOk n z.2.2.1 z.2.2.2 ∧ Set0 z.2.2.1 z.2.2.2 ∧ neg z.2.2.1 + z.2.2.2.length ≤ z.1 ∧ z.1 ≤ 8192 ∧ bwL a.ed z.1 z.2.2.1 z.2.2.2 = bwd n a.ed to)
          (fun z => z.1 + 1 - (if z.2.2.2 = [] then 1 else 0)) (by rfl) (n + to.length, vq, bw0 n to, to) ⟨rfl, trivial⟩
          ⟨hs7, hz7, hBO7', ownsQ.of_row hQ7, bw0_ok htb', fun x hx => by rw [bw0_get (htb' x hx) hx]; omega, by have := neg_le (bw0 n to); rw [bw0_len] at this; simp only []; omega, by simp only []; omega, rfl⟩ ?_
        rintro ⟨fu, vq, o, q⟩ g w8 ⟨hs8, hz8, hBO8, hQ8, hok, hset, hfu, hfu2, hres⟩
        simp only [] at hz8 hBO8 hQ8 hok hset hfu hfu2 hres
        have hnq : neg o + q.length ≤ 8192 := by omega
        refine W_seq <| W_seq <| W_region (by rfl) ?_
        refine x r_move <| x (r_lenA (q_arr (L := []) hQ8 (by omega) (by simp)) rfl) <| x (r_gtr rfl rfl) <| xe ?_
        refine W_ifn rfl (fun h69 => ?_) (fun h69 => ?_)
        · refine W_exit ?_
          have hq0 : q = [] := List.eq_nil_of_length_eq_zero (by have h70 : ¬ (q.length : Int) > 0 := h69; omega)
          rw [hq0, bwL_nil] at hres
          rw [hres] at hBO8
          refine W_seq <| W_region (by rfl) ?_
          refine x r_move <| x r_assign <| xe ?_
          exact W_ret ⟨[.slice (some ⟨bO, 0, none⟩) n n], ⟨rfl, trivial⟩, hs1.trans (hs23.trans hs8), bO, rfl, by omega, hBO8⟩
        refine W_skip ?_
        have hq1 : 0 < q.length := by have h70 : (q.length : Int) > 0 := h69; omega
        refine Exists.elim (List.exists_cons_of_length_pos hq1) fun s hq' => Exists.elim hq' fun q' hqq => ?_
        subst hqq
        have hfu1 : 0 < fu := by simp only [List.length_cons] at hfu; omega
        refine Exists.elim (Nat.exists_eq_succ_of_ne_zero (show fu ≠ 0 by omega)) fun fu' hfe => ?_
        subst hfe
        have hsr := hok.q s List.mem_cons_self
        have hos := hset s List.mem_cons_self
        have hsn : s = (s.toNat : Int) := by omega
        rw [bwL] at hres
        simp only [List.length_cons] at hfu
        refine W_block <| W_seq <| W_region (by rfl) ?_
        refine x r_move <| xii (i := 0) (q_arr (L := []) hQ8 (by simp only [List.length_cons]; omega) (by simp)) rfl rfl (by simp) fun a71 h71 => x (r_loadA h71 rfl) <| x r_assign <| xe ?_
        refine W_seq <| W_region (by rfl) ?_
        refine x r_move <| xslQ (lo := 1) hQ8 rfl rfl (by simp only [List.length_cons]; omega) fun vq1 hQ81 hobq => x r_assign <| xe ?_
        have hQ9 : IntsQ 3 w5.heap.size w8 vq1 q' := IntsQ.tail hQ81
        refine W_seq <| W_region (by rfl) ?_
        refine x r_move <| x r_move <| x (r_indexB (i := s.toNat) rfl (congrArg (Value.int .i64) hsn) (by omega)) <| x (r_loadB (u := rv s.toNat) (hBI3.ext hs8) rfl (rows_get (by omega))) <| x (r_lenA ((hI3 s.toNat (by omega)).ext hs8) rfl) <| x r_move <| xe ?_
        have hil := intoL_len a.ed s.toNat
        refine W_block <| W_loop (α := Nat × Value × List Int × List Int) [(10, 10), (15, 15), (80, 101)] (fun z => [(10, z.2.1), (80, .int .i64 z.1)])
          (fun z w' => z.1 ≤ (intoL a.ed s.toNat).length ∧ Step [] w3 w' ∧ w5.heap.size ≤ w'.heap.size ∧ Blk w'.heap bO 3 (z.2.2.1.map (Value.int .i64)) ∧ IntsQ 3 w5.heap.size w' z.2.1 z.2.2.2 ∧ BwOk n z.2.2.1 z.2.2.2 ∧ Set0 z.2.2.1 z.2.2.2 ∧ 0 ≤ cget z.2.2.1 s.toNat ∧ neg z.2.2.1 + z.2.2.2.length ≤ fu' ∧ ((intoL a.ed s.toNat).drop z.1).foldl (bwE s) (z.2.2.1, z.2.2.2) = (intoL a.ed s.toNat).foldl (bwE s) (o, q'))
          (fun z => (intoL a.ed s.toNat).length - z.1) (by rfl) (0, vq1, o, q') ⟨rfl, rfl, trivial⟩
          ⟨Nat.zero_le _, hs8, hz8, hBO8, hQ9, ⟨hok.len, fun x hx => hok.q x (List.mem_cons_of_mem _ hx), hok.le⟩, fun x hx => hset x (List.mem_cons_of_mem _ hx), hos, by simp only []; omega, rfl⟩ ?_
        rintro ⟨m, vq2, o2, q2⟩ g w9 ⟨hm, hs9, hz9, hBO9, hQ9, hok9, hset9, hos9, hfu9, hfo⟩
        simp only [] at hm hz9 hBO9 hQ9 hok9 hset9 hos9 hfu9 hfo
        refine W_seq <| W_region (by rfl) ?_
        refine x (r_lss rfl rfl) <| xe ?_
        refine W_seq <| W_ifn rfl (fun h81 => ?_) (fun h81 => ?_)
        · refine W_exit ?_
          have hme : (intoL a.ed s.toNat).length ≤ m := by have h82 : ¬ (m : Int) < ((intoL a.ed s.toNat).length : Int) := h81; omega
          rw [List.drop_of_length_le hme] at hfo
          rw [← hfo] at hres
          exact ⟨(fu', vq2, o2, q2), by simp only []; split <;> simp <;> omega, ⟨rfl, trivial⟩, hs9, hz9, hBO9, hQ9, hok9, hset9, hfu9, by simp only []; omega, hres⟩
        refine W_skip ?_
        have hmlt : m < (intoL a.ed s.toNat).length := by have h82 : (m : Int) < ((intoL a.ed s.toNat).length : Int) := h81; omega
        have hpm := intoL_mem (List.getElem_mem hmlt)
        have hdr := drop_cons hmlt
        rw [hdr, List.foldl_cons] at hfo
        refine exE ((intoL a.ed s.toNat)[m]'hmlt) fun p hp => ?_
        rw [hp] at hpm hfo
        have hpb : 0 ≤ p ∧ p < (n : Int) := by
          obtain ⟨e, he, h1, _⟩ := hpm
          have := hed e he
          omega
        have hpn : p = (p.toNat : Int) := by omega
        have hol := hok9.len
        have hpl : p.toNat < o2.length := by omega
        have hsl : s.toNat < o2.length := by omega
        have hvs := hok9.le _ (cget_mem hsl)
        have hEk := bwE_ok (st := (o2, q2)) hok9 hsr hos9 hpb
        have hE0 := bwE_set0 (st := (o2, q2)) hok9 hos9 hpb hset9
        refine W_seq <| W_block <| W_seq <| W_region (by rfl) ?_
        refine xii (i := m) ((hI3 s.toNat (by omega)).ext hs9) rfl rfl hmlt fun a82 h82 => ?_
        rw [hp] at h82
        refine x (r_loadA h82 rfl) <| x r_assign <| xe ?_
        refine W_seq <| W_region (by rfl) ?_
        refine x r_move <| x r_move <| x (r_indexB (i := p.toNat) rfl (congrArg (Value.int .i64) hpn) (by omega)) <| x (r_loadI (i := p.toNat) hBO9 rfl hpl) <| x (r_lss rfl rfl) <| xe ?_
        refine W_ifn rfl (fun h88 => ?_) (fun h88 => ?_)
        · refine W_skip ?_
          have hc : ¬ cget o2 p.toNat < 0 := by rw [← cget_eq hpl]; exact h88
          have hEq : bwE s (o2, q2) p = (o2, q2) := by unfold bwE; rw [if_neg hc]
          rw [hEq] at hfo
          refine W_region (by rfl) ?_
          refine x (r_add rfl rfl ⟨by omega, by omega⟩) <| x r_move <| xe ?_
          exact ⟨(m + 1, vq2, o2, q2), by simp only []; omega, ⟨rfl, rfl, trivial⟩, hmlt, hs9, hz9, hBO9, hQ9, hok9, hset9, hos9, hfu9, hfo⟩
        have hc : cget o2 p.toNat < 0 := by rw [← cget_eq hpl]; exact h88
        have hEq : bwE s (o2, q2) p = (o2.set p.toNat (cget o2 s.toNat + 1), q2 ++ [p]) := by unfold bwE; rw [if_pos hc]
        rw [hEq] at hfo hEk hE0
        have hcs := cget_eq hsl
        refine W_seq <| W_region (by rfl) ?_
        refine x r_move <| x r_move <| x r_move <| x r_move <| x (r_indexB (i := s.toNat) rfl (congrArg (Value.int .i64) hsn) (by omega)) <| x (r_loadI (i := s.toNat) hBO9 rfl hsl) <| x (r_add rfl rfl ⟨by omega, by omega⟩) <|
          x (r_indexB (i := p.toNat) rfl (congrArg (Value.int .i64) hpn) (by omega)) <| xl rfl <| o_storeI (i := p.toNat) hBO9 rfl rfl hpl fun w10 hs10 hBO10 => xe ?_
        rw [hcs] at hBO10
        have hz10 := hs10.size
        have hnO : ∀ b ∈ ob vq2, b ∉ [bO] := fun b hb => by have := q_ge hQ9 b hb; simp; omega
        have hQ10 := q_step hQ9 hs10 hnO
        have hs3a : Step [] w3 w10 := hs9.then1 hs10 (by omega)
        refine W_region (by rfl) ?_
        refine x r_move <| x r_move <| xl rfl <| o_lits (us := [[.int .i64 p]]) rfl rfl (by decide) (by simp) ⟨rfl, rfl, trivial⟩ fun b99 w11 hs11 hb99 hB99 => xl rfl <| o_appQ (m := 1) (news := [.int .i64 p]) (q_ext hQ10 hs11) rfl rfl rfl (by omega) (hB99.at (L := []) (by simp)) (by simp [Value.oneCell']) (by omega) (by have := hs11.size; omega) fun vq3 w12 hQ12 hs12 hn12 =>
          x r_assign <| xe ?_
        have hz11 := hs11.size
        have hz12 := hs12.size
        have hQ12' : IntsQ 3 w5.heap.size w12 vq3 (q2 ++ [p]) := IntsQ.snoc hQ12
        have hz3O : w3.heap.size ≤ w5.heap.size := by omega
        refine W_region (by rfl) ?_
        refine x (r_add rfl rfl ⟨by omega, by omega⟩) <| x r_move <| xe ?_
        refine ⟨(m + 1, vq3, _, q2 ++ [p]), by simp only []; omega, ⟨rfl, rfl, trivial⟩, hmlt, (hs3a.trans hs11).then hs12 (fun b hb => .inr (by have := q_ge hQ9 b hb; omega)), by omega, (hBO10.ext hs11).step hs12 (fun hb => by have := q_ge hQ9 _ hb; omega), hQ12', hEk.1, hE0, hEk.2.2, ?_, hfo⟩
        have h5 : neg (o2.set p.toNat (cget o2 s.toNat + 1)) + (q2 ++ [p]).length = neg o2 + q2.length := hEk.2.1
        simp only []; omega
      refine W_skip ?_
      have hilt : i < to.length := by have h61 : (i : Int) < (to.length : Int) := h60; omega
      have hti := htb' _ (List.getElem_mem hilt)
      have htk : to.take (i + 1) = to.take i ++ [to[i]'hilt] := List.take_succ_eq_append_getElem hilt
      refine exE (to[i]'hilt) fun s hs => ?_
      rw [hs] at hti htk
      have hsn : s = (s.toNat : Int) := by omega
      have hst : (gA n (fun j : Nat => if (j : Int) ∈ to.take i then 0 else -1)).set s.toNat 0 = gA n (fun j : Nat => if (j : Int) ∈ to.take (i + 1) then 0 else -1) := gA_set (by rw [htk]; simp; omega) (fun j _ hj => by
        rw [htk]
        have : ¬ (j : Int) = s := by omega
        simp [this])
      refine W_seq <| W_block <| W_seq <| W_region (by rfl) ?_
      refine xii (i := i) (hto3.ext hs7) rfl rfl hilt fun a61 h61 => ?_
      rw [hs] at h61
      refine x (r_loadA h61 rfl) <| x r_assign <| xe ?_
      refine W_region (by rfl) ?_
      refine x r_move <| x r_move <| x (r_indexB (i := s.toNat) rfl (congrArg (Value.int .i64) hsn) (by omega)) <| xl rfl <| o_storeG (i := s.toNat) hBO7 rfl rfl (by omega) hst fun w8 hs8 hBO8 => xe ?_
      refine W_region (by rfl) ?_
      refine x (r_add rfl rfl ⟨by omega, by omega⟩) <| x r_move <| xe ?_
      have hz8 := hs8.size
      exact ⟨i + 1, by omega, ⟨rfl, trivial⟩, hilt, hs7.then1 hs8 (by omega), hBO8, own_step hQ7 hs8 (fun b hb => by have := own_ge hQ7 b hb; simp; omega), by omega⟩
    refine W_skip ?_
    have hjn : j < n := by have h50 : (j : Int) < (n : Int) := h49; omega
    refine W_seq <| W_block <| W_seq <| W_region (by rfl) ?_
    refine x r_move <| x r_assign <| xe ?_
    refine W_region (by rfl) ?_
    have hst : (gA n (fun i => if i < j then -1 else 0)).set j (-1) = gA n (fun i => if i < j + 1 then -1 else 0) := gA_set (by rw [if_pos (by omega)]) (fun i _ hi => by
      by_cases e : i < j
      · rw [if_pos e, if_pos (by omega)]
      · rw [if_neg e, if_neg (by omega)])
    refine x r_move <| x r_move <| x (r_indexB (i := j) rfl rfl (by omega)) <| xl rfl <| o_storeG (i := j) hBO5 rfl rfl hjn hst fun w6 hs6 hBO6 => xe ?_
    refine W_region (by rfl) ?_
    refine x (r_add rfl rfl ⟨by omega, by omega⟩) <| x r_move <| xe ?_
    exact ⟨j + 1, by omega, ⟨rfl, trivial⟩, hjn, hs5.then1 hs6 (by omega), hBO6⟩
  refine W_skip ?_
  have hlt : k < a.ed.length := by have h18 : (k : Int) < (a.ed.length : Int) := h25; omega
  have htk : a.ed.take (k + 1) = a.ed.take k ++ [a.ed[k]'hlt] := List.take_succ_eq_append_getElem hlt
  have hek := hed _ (List.getElem_mem hlt)
  refine exE (a.ed[k]'hlt) fun e he => ?_
  rw [he] at htk hek
  have hto' : e.2.2 = (e.2.2.toNat : Int) := by omega
  have htn : e.2.2.toNat < n := by omega
  have hil := intoL_len (a.ed.take k) e.2.2.toNat
  rw [List.length_take] at hil
  have hsn := intoL_snoc (a.ed.take k) e hek.2.2.1
  refine W_seq <| W_block <| W_seq <| W_region (by rfl) ?_
  refine xie ((h.ed.ext hs1).ext hs23) rfl rfl hlt fun a18 h18 => ?_
  rw [he] at h18
  refine x (r_loadsA h18 rfl rfl) <| xl rfl <| o_alloc (us := [.int .i64 0, .int .i64 0, .int .i64 0]) rfl fun b7 w4 hs4 hb7 hB7 => xl rfl <| o_stores (us := edCells e) hB7 rfl rfl rfl rfl ⟨rfl, rfl, rfl, trivial⟩ fun w5 hs5 hB7' => xe ?_
  have hs35 : Step [] w3 w5 := hs4.then1 hs5 hb7
  have hz5 := hs35.size
  have hR5 := hR3.ext hs35
  have hrow := hR5.own _ htn
  have hIn : ∀ b ∈ ob (rv e.2.2.toNat), w2.heap.size ≤ b ∧ b < w3.heap.size := fun b hb => ⟨(own_ge (hR3.own _ htn) b hb).1, own_lt (hR3.own _ htn) b hb⟩
  have hbIn : bI ∉ ob (rv e.2.2.toNat) := fun hb => by have := hIn _ hb; omega
  have hb7n : b7 ∉ ob (rv e.2.2.toNat) := fun hb => by have := hIn _ hb; omega
  have hBI5 := hBI3.ext hs35
  refine W_draw (Step (ob (rv e.2.2.toNat)) w5) [(0, true), (1, true), (2, true), (3, true), (4, true), (5, true), (6, true), (7, true), (8, true), (9, true), (10, false), (11, false), (12, true), (13, false)] Tryz.mixed (by rfl) (by kernel_rfl) (Step.drew _ _) ?_
  refine p (fun _ => r_move) <| p (fun _ => r_fieldB rfl) <| pq (fun _ hc => r_loadB (hB7'.step hc hb7n) rfl rfl) <| p (fun _ => r_move) <| p (fun _ => r_fieldB rfl) <| pq (fun _ hc => r_loadB (hB7'.step hc hb7n) rfl rfl) <|
    p (fun _ => r_indexB (i := e.2.2.toNat) rfl (congrArg (Value.int .i64) hto') htn) <| pq (fun _ hc => r_loadB (u := rv e.2.2.toNat) (hBI5.step hc hbIn) rfl (rows_get htn)) <| p (fun _ => r_fieldB rfl) <| pq (fun _ hc => r_loadB (hB7'.step hc hb7n) rfl rfl) <|
    pk <| o_lits (us := [[.int .i64 e.1]]) rfl rfl (by decide) (by simp) ⟨rfl, rfl, trivial⟩ fun b38 w6 hs6 hb38 hB38 => ⟨(Step.drew _ _).trans hs6, ?_⟩
  have hs56 : Step [] w5 w6 := (Step.drew _ _).trans hs6
  have hz6 := hs56.size
  refine pk <| o_app (m := 1) (news := [.int .i64 e.1]) (own_ext hrow hs56) rfl rfl rfl (hB38.at (L := []) (by simp)) (by simp [Value.oneCell']) (by omega) (by omega) fun vr w7 ho7 hs7 hn7 => ⟨hs56.any.trans' hs7, ?_⟩
  have hBI7 := (hBI5.ext hs56).step hs7 hbIn
  have hlen : ((List.range n).map rv).length = n := by simp
  refine p (fun _ => r_indexB (i := e.2.2.toNat) rfl (congrArg (Value.int .i64) hto') htn) <| pkl (hl := by kernel_rfl) <| o_store (j := 0 + e.2.2.toNat * 1) (u := vr) hBI7 rfl rfl (by rw [hlen]; omega) (own_arr (L := []) ho7 (by omega) (by simp)).one fun w8 hs8 hBI8 => pe ?_
  have hb8 : Blk w8.heap bI 32 ((List.range n).map (updF rv e.2.2.toNat vr)) := by
    have e1 := updF_map id n rv e.2.2.toNat vr
    simp only [id] at e1
    rw [← e1]
    simpa using hBI8
  have hvn : ∀ b ∈ ob vr, b ∈ ob (rv e.2.2.toNat) ∨ w5.heap.size ≤ b := fun b hb => (hn7 b hb).imp id (fun h => by omega)
  have hR7 := hR5.app htn (IntsO.snoc ho7) (hs56.any.trans' hs7) hvn
  have hR8 := hR7.step hs8 (fun i hi b hb => by have := (own_ge (hR7.own i hi) b hb).1; simp; omega)
  have hfe : updF (intoL (a.ed.take k)) e.2.2.toNat (intoL (a.ed.take k) e.2.2.toNat ++ [e.1]) = intoL (a.ed.take (k + 1)) := by rw [htk]; exact funext hsn
  rw [hfe] at hR8
  refine W_region (by rfl) ?_
  refine x (r_add rfl rfl ⟨by omega, by omega⟩) <| x r_move <| xe ?_
  refine ⟨(k + 1, updF rv e.2.2.toNat vr), by simp only []; omega, ⟨rfl, trivial⟩, hlt, ?_, hb8, hR8⟩
  exact (((hs3.trans hs35).trans hs56).then hs7 (fun b hb => .inr (hIn b hb).1)).trans' hs8
end Go.Proofs.YtfhgnlkdcdlblaaGreatDoor
/- Contract: reach.Coreachable. -/
namespace Go.Proofs.YtfhgnlkdcdlblaaGreatDoor
open Go.Lg

/-- The numbers below k with a distance. -/
def corS (d : List Int) (k : Nat) : List Int := ((List.range k).filter fun i => decide (0 ≤ cget d i)).map fun i : Nat => (i : Int)
def cor (a : Aut) : List Int := corS (bwd a.st.toNat a.ed a.mr) a.st.toNat
theorem corS_succ (d : List Int) (k : Nat) : corS d (k + 1) = if 0 ≤ cget d k then corS d k ++ [(k : Int)] else corS d k := by
  unfold corS
  rw [List.range_succ, List.filter_append, List.map_append]
  by_cases h : 0 ≤ cget d k
  · simp [h]
  · simp [h]
theorem corS_len (d : List Int) (k : Nat) : (corS d k).length ≤ k := by
  unfold corS; rw [List.length_map]; have := List.length_filter_le (fun i => decide (0 ≤ cget d i)) (List.range k); simpa using this
theorem bwE_len (s : Int) (st : List Int × List Int) (p : Int) : (bwE s st p).1.length = st.1.length := by unfold bwE; split <;> simp
theorem bwEs_len (s : Int) : ∀ (ps : List Int) (st : List Int × List Int), (ps.foldl (bwE s) st).1.length = st.1.length
  | [], _ => rfl
  | p :: ps, st => by rw [List.foldl_cons, bwEs_len s ps, bwE_len]
theorem bwL_len (es : List Ed) : ∀ (f : Nat) (o q : List Int), (bwL es f o q).length = o.length
  | 0, _, _ => rfl
  | _ + 1, _, [] => rfl
  | f + 1, o, s :: q => by rw [bwL, bwL_len es f, bwEs_len]
theorem bwd_len (n : Nat) (es : List Ed) (to : List Int) : (bwd n es to).length = n := by unfold bwd; rw [bwL_len, bw0_len]
theorem Coreachable_ok {w : World} {va vm ve : Value} {a : Aut} (h : AutA [] w.heap va vm ve a) :
    Ret Tryz.prog 11 [.agg #[va, .int .i64 a.st, vm, ve]] w fun r w' => Step [] w w' ∧ ∃ v, r = .tuple #[v, .int .i64 (ckA a)] ∧ IntsO 3 w.heap.size w' v (if ckA a = 0 then cor a else []) := by
  refine Ret.of_W Tryz.func11 rfl Tryz.ntmps11 Tryz.results11 (by simp) ?_
  refine W_seq <| W_region (by rfl) ?_
  refine xl rfl <| o_box (us := [va, .int .i64 a.st, vm, ve]) rfl fun b1 w1 hs1 hb1 hB1 => x r_assign <| x r_assign <| xe ?_
  refine W_seq <| W_seq <| W_region (by rfl) ?_
  refine x (r_loadsB hB1 rfl rfl) <| xl rfl <| xf <| (check_ok (h.ext hs1)).mono ?_
  rintro r2 w2 ⟨rfl, hs2⟩
  refine x r_assign <| xe ?_
  refine W_seq <| W_region (by rfl) ?_
  refine x r_move <| x (r_neq rfl rfl) <| xe ?_
  have hz1 := hs1.size
  have hz2 := hs2.size
  refine W_if rfl (fun h11 => ?_) (fun h11 => ?_)
  · refine W_seq <| W_region (by rfl) ?_
    refine x r_move <| x r_assign <| x r_assign <| xe ?_
    refine W_ret ⟨[.slice none 0 0, .int .i64 (ckA a)], ⟨rfl, rfl, trivial⟩, hs1.trans hs2, _, rfl, ?_⟩
    rw [if_neg h11]; exact own_nil _ _ _ _
  have hck : ckA a = 0 := Decidable.not_not.1 h11
  have ho := (ckA_zero a).1 hck
  refine exN ho.st0 fun n hn => ?_
  have hnt : a.st.toNat = n := by omega
  have hst1 := ho.st1
  have hml := ho.mr_le
  have hel := ho.ed_le
  refine W_skip ?_
  refine W_seq <| W_region (by rfl) ?_
  refine x r_assign <| xe ?_
  have hA2 := (h.ext hs1).ext hs2
  have hd0 : Step [] w2 { w2 with drawn := w2.drawn + 1 } := Step.drew _ _
  refine W_seq <| W_seq <| W_draw (Step [] w2) [(0, true), (2, true), (3, true), (6, true), (1, false), (4, false), (5, true)] Tryz.mixed (by rfl) (by kernel_rfl) (Step.drew _ _) ?_
  refine pq (fun _ hc => r_loadsB ((hB1.ext hs2).ext hc) rfl rfl) <| p (fun _ => r_fieldB rfl) <| pq (fun _ hc => r_loadB ((hB1.ext hs2).ext hc) rfl rfl) <|
    p (fun _ => r_move) <| pk <| xf <| (newGraph_ok (hA2.ext hd0) hn hst1 (fun e he => ⟨(ho.ed e he).1, (ho.ed e he).2.1⟩)).mono ?_
  rintro r3 w3 ⟨hs3, bF, rfl, _, _⟩
  refine ⟨hd0.trans hs3, ?_⟩
  have hs23 := hd0.trans hs3
  refine pk <| xf <| (backward_ok (hA2.ext hs23) hn hst1 (fun e he => ⟨(ho.ed e he).1, (ho.ed e he).2.1, (ho.ed e he).2.2.2⟩) (by omega) (hA2.mr.ext hs23) ho.mr hml).mono ?_
  rintro r4 w4 ⟨hs4, bO, rfl, hbO, hBO⟩
  refine ⟨hs23.trans hs4, ?_⟩
  have hs24 := hs23.trans hs4
  have hdl := bwd_len n a.ed a.mr
  have hAO : Arr [] w4.heap (.slice (some ⟨bO, 0, none⟩) n n) n 1 ((bwd n a.ed a.mr).map (Value.int .i64)) := hBO.arr (by simp) (by simp [hdl]) (by omega) (Nat.le_refl _)
  refine p (fun _ => r_lenA hAO rfl) <| pe ?_
  have hz4 := hs24.size
  have hcor : cor a = corS (bwd n a.ed a.mr) n := by unfold cor; rw [hnt]
  refine W_block <| W_loop (α := Nat × Value) [(5, 7), (19, 30)] (fun z => [(5, z.2), (19, .int .i64 z.1)]) (fun z w' => z.1 ≤ n ∧ Step [] w4 w' ∧ IntsO 3 w4.heap.size w' z.2 (corS (bwd n a.ed a.mr) z.1)) (fun z => n - z.1) (by rfl) (0, .slice none 0 0) ⟨rfl, rfl, trivial⟩
    ⟨Nat.zero_le _, Step.refl _ _, own_nil _ _ _ _⟩ ?_
  rintro ⟨k, v⟩ g w5 ⟨hk, hs5, ho5⟩
  simp only [] at hk ho5
  refine W_seq <| W_region (by rfl) ?_
  refine x (r_lss rfl rfl) <| xe ?_
  refine W_seq <| W_ifn rfl (fun h20 => ?_) (fun h20 => ?_)
  · refine W_exit ?_
    have hkn : k = n := by have h21 : ¬ (k : Int) < (n : Int) := h20; omega
    rw [hkn, ← hcor] at ho5
    refine W_seq <| W_region (by rfl) ?_
    refine x r_move <| x r_assign <| x r_assign <| xe ?_
    refine W_ret ⟨[v, .int .i64 0], ⟨rfl, rfl, trivial⟩, (hs1.trans hs2).trans (hs24.trans hs5), _, by rw [hck]; rfl, ?_⟩
    rw [if_pos hck]; exact own_base ho5 (by omega)
  have hkn : k < n := by have h21 : (k : Int) < (n : Int) := h20; omega
  have hsu := corS_succ (bwd n a.ed a.mr) k
  have hcl := corS_len (bwd n a.ed a.mr) k
  refine W_skip ?_
  refine W_seq <| W_block <| W_seq <| W_region (by rfl) ?_
  have hA5 : Ints [] w5.heap (.slice (some ⟨bO, 0, none⟩) n n) (bwd n a.ed a.mr) := by unfold Ints; rw [hdl]; exact hAO.ext hs5
  refine x r_move <| xic (i := k) hA5 rfl rfl (by omega) fun a22 h22 => x (r_loadA h22 rfl) <| x r_assign <| x r_assign <| xe ?_
  refine W_seq <| W_region (by rfl) ?_
  refine x r_move <| x (r_geq rfl rfl) <| xe ?_
  refine W_ifn rfl (fun h25 => ?_) (fun h25 => ?_)
  · refine W_skip ?_
    rw [if_neg h25] at hsu
    refine W_region (by rfl) ?_
    refine x (r_add rfl rfl ⟨by omega, by omega⟩) <| x r_move <| xe ?_
    exact ⟨(k + 1, v), by simp only []; omega, ⟨rfl, rfl, trivial⟩, hkn, hs5, by rw [hsu]; exact ho5⟩
  rw [if_pos h25] at hsu
  have hz5 := hs5.size
  refine W_region (by rfl) ?_
  refine x r_move <| x r_move <| xl rfl <| o_lits (us := [[.int .i64 k]]) rfl rfl (by decide) (by simp) ⟨rfl, rfl, trivial⟩ fun b28 w6 hs6 hb28 hB28 => xl rfl <| o_app (m := 1) (news := [.int .i64 k]) (own_ext ho5 hs6) rfl rfl rfl (hB28.at (L := []) (by simp)) (by simp [Value.oneCell']) (by omega) (by have := hs6.size; omega) fun v7 w7 ho7 hs7 hn7 =>
    x r_assign <| xe ?_
  refine W_region (by rfl) ?_
  refine x (r_add rfl rfl ⟨by omega, by omega⟩) <| x r_move <| xe ?_
  exact ⟨(k + 1, v7), by simp only []; omega, ⟨rfl, rfl, trivial⟩, hkn, (hs5.trans hs6).then hs7 (fun b hb => .inr (own_ge ho5 b hb).1), by rw [hsu]; exact IntsO.snoc ho7⟩
end Go.Proofs.YtfhgnlkdcdlblaaGreatDoor
/- Contracts: reach.edges and the iterator that it makes. -/
namespace Go.Proofs.YtfhgnlkdcdlblaaGreatDoor
open Go.Lg

theorem pslB {P : Program} {ops : List Oper} {K : Fr → World → Prop} {f : Fr} {w : World} {d : Option Nat} {ty : Nat} {ps : String} {af : Array Edge} {gd : Option (Nat × Bool)} {C : World → Prop} {pl : List (Nat × Bool)} {i0 : Nat}
    {t e sz bys : Nat} {z : Value} {x y1 y2 : Operand} {L : List Nat} {v : Value} {n : Nat} {cs : List Value} {H : Array Obj} {k k' : IntKind} {lo hi : Nat} [h : Sl P t e sz bys z]
    (ho : opAt ops i0 = ⟨d, .slice t x (some y1) (some y2) none, ty, ps, af, gd⟩) (hA : Arr L H v n sz cs) (hx : ev f x = v) (hl : ev f y1 = .int k lo) (hh : ev f y2 = .int k' hi) (h1 : lo ≤ hi) (h2 : hi ≤ n)
    (hK : ∀ v', Arr L H v' (hi - lo) sz ((cs.drop (lo * sz)).take ((hi - lo) * sz)) → XP P ops C K pl (putF f d v') w)
    (hg : gdF ops f (opAt ops i0) = true := by rfl) : XP P ops C K ((i0, true) :: pl) f w := by
  obtain ⟨v', h3, h4⟩ := r_slice (P := P) (d := d) (ty := ty) (ps := ps) (af := af) (gd := gd) (t := t) hA hx hl hh h1 h2
  exact Lg.p (fun w' => by rw [ho]; exact h4 w') (by rw [ho]; exact hK v' h3) hg
theorem fS_lt {es : List Ed} (hs : es.Pairwise fun x y => x.1 ≤ y.1) (s : Nat) : ∀ (m : Nat) (hm : m < es.length), (m : Int) < fS es s ↔ (es[m]'hm).1 < (s : Int) := by
  unfold fS cnE
  induction es with
  | nil => intro m hm; simp at hm
  | cons e es ih =>
    intro m hm
    simp only [List.pairwise_cons] at hs
    have ih := ih hs.2
    simp only [List.filter_cons]
    by_cases h1 : e.1 < (s : Int)
    · simp only [h1, decide_true, if_true, List.length_cons]
      cases m with
      | zero => simp only [List.getElem_cons_zero]; omega
      | succ m =>
        have := ih m (by simpa using hm)
        simp only [List.getElem_cons_succ]
        rw [← this]; omega
    · have h0 : (es.filter fun e => decide (e.1 < (s : Int))) = [] := List.filter_eq_nil_iff.2 (fun d hd => by have := hs.1 d hd; simp; omega)
      simp only [h1, decide_false, Bool.false_eq_true, if_false, h0, List.length_nil]
      cases m with
      | zero => simp only [List.getElem_cons_zero]; omega
      | succ m =>
        have hd : es[m]'(by simpa using hm) ∈ es := List.getElem_mem _
        have := hs.1 _ hd
        simp only [List.getElem_cons_succ]; omega
theorem fS_mono (es : List Ed) (s : Nat) : fS es s ≤ fS es (s + 1) := by
  have h := fS_succ es s
  have := (cnE_le (fun e : Ed => decide (e.1 + 1 = ((s + 1 : Nat) : Int))) es).1
  unfold cN at h; omega
theorem seg_out {es : List Ed} (hs : es.Pairwise fun x y => x.1 ≤ y.1) (s lo hi : Nat) (h1 : fS es s = (lo : Int)) (h2 : fS es (s + 1) = (hi : Int)) : (es.drop lo).take (hi - lo) = outE es s ∧ hi ≤ es.length ∧ lo ≤ hi := by
  have hm := fS_mono es s
  have hl := (cnE_le (fun e : Ed => decide (e.1 < ((s + 1 : Nat) : Int))) es).2
  have hhi : hi ≤ es.length := by unfold fS at h2; omega
  refine ⟨?_, hhi, by omega⟩
  exact cut_filter (fun e : Ed => decide (e.1 = (s : Int))) es lo hi (by omega) hhi
    (fun m hm hml => by have := (fS_lt hs s m hm).1 (by omega); simp; omega)
    (fun m hm h3 h4 => by
      have h5 : ¬ (es[m]'hm).1 < (s : Int) := fun h => by have := (fS_lt hs s m hm).2 h; omega
      have h6 := (fS_lt hs (s + 1) m hm).1 (by omega)
      simp; omega)
    (fun m hm h3 => by
      have h6 : ¬ (es[m]'hm).1 < ((s + 1 : Nat) : Int) := fun h => by have := (fS_lt hs (s + 1) m hm).2 h; omega
      simp; omega)
theorem flat_drop : ∀ (l : List Ed) (k : Nat), (l.flatMap edCells).drop (k * 3) = (l.drop k).flatMap edCells
  | [], k => by simp
  | e :: l, 0 => by simp
  | e :: l, k + 1 => by
    simp only [List.flatMap_cons, List.drop_succ_cons, Nat.add_mul, Nat.one_mul]
    rw [Nat.add_comm, ← List.drop_drop, show (edCells e ++ l.flatMap edCells).drop 3 = l.flatMap edCells from rfl, flat_drop l k]
theorem flat_take : ∀ (l : List Ed) (k : Nat), (l.flatMap edCells).take (k * 3) = (l.take k).flatMap edCells
  | [], k => by simp
  | e :: l, 0 => by simp
  | e :: l, k + 1 => by
    simp only [List.flatMap_cons, List.take_succ_cons, Nat.add_mul, Nat.one_mul]
    rw [Nat.add_comm, List.take_append, show (edCells e).length = 3 from rfl, show 3 + k * 3 - 3 = k * 3 by omega, flat_take l k, List.take_of_length_le (by rw [show (edCells e).length = 3 from rfl]; omega)]

theorem edges_ok {w : World} {va vm ve vf : Value} {st s : Int} :
    Ret Tryz.prog 68 [.agg #[va, .int .i64 st, vm, ve, vf], .int .i64 s] w fun r w' => Step [] w w' ∧ ∃ b1 b2, r = .func (.func 92) #[] #[.pointer (some ⟨b1, 0, none⟩), .pointer (some ⟨b2, 0, none⟩)] ∧
      w.heap.size ≤ b1 ∧ w.heap.size ≤ b2 ∧ Blk w'.heap b1 89 [va, .int .i64 st, vm, ve, vf] ∧ Blk w'.heap b2 3 [.int .i64 s] := by
  refine Ret.of_W Tryz.func68 rfl Tryz.ntmps68 Tryz.results68 (by simp) ?_
  refine W_seq <| W_region (by rfl) ?_
  refine xl rfl <| o_box (us := [va, .int .i64 st, vm, ve, vf]) rfl fun b2 w1 hs1 hb2 hB2 => xl rfl <| o_box (us := [.int .i64 s]) rfl fun b3 w2 hs2 hb3 hB3 => x r_assign <| xe ?_
  refine W_seq <| W_region (by rfl) ?_
  refine x r_makeFunc <| x r_assign <| xe ?_
  have hz1 := hs1.size
  exact W_ret ⟨[_], ⟨rfl, trivial⟩, hs1.trans hs2, b2, b3, rfl, hb2, by omega, hB2.ext hs2, hB3⟩

/-- The iterator: it gives the edges of the state in their order, whatever the loop does that keeps what it reads. -/
theorem edges1_seq {L : List Nat} {w : World} {b1 b2 bF n s m : Nat} {va vm ve : Value} {a : Aut} (hB1 : Blk w.heap b1 89 [va, .int .i64 a.st, vm, ve, .slice (some ⟨bF, 0, none⟩) (n + 1) (n + 1)]) (hB2 : Blk w.heap b2 3 [.int .i64 s])
    (hBF : Blk w.heap bF 3 ((gA (n + 1) (fS a.ed)).map (Value.int .i64))) (hE : Eds L w.heap ve a.ed) (hso : a.ed.Pairwise fun x y => x.1 ≤ y.1) (hs : s < n) (hn : n ≤ 4096) :
    SeqStopsK (fen none) m Tryz.prog 92 [.pointer (some ⟨b1, 0, none⟩), .pointer (some ⟨b2, 0, none⟩)].toArray (fun x : { e : Ed // e ∈ a.ed } => #[.agg (edCells x.1).toArray]) (Lw w.heap.size L)
      (fun ys => ys.map (·.1) = outE a.ed s) (fun _ => True) (a.ed.length + 1) w := by
  intro l J Jx W hbel hJ hJx hY h0
  have hwW : Step [] w W := Step.of_below hbel
  have ab : ∀ {ys : List { e : Ed // e ∈ a.ed }} {W1 W2 : World}, J ys W1 → Step [] W1 W2 → J ys W2 := fun {ys W1 W2} hj hst => hJ ys W1 W2 none hj ⟨hst.os, hst.tape, hst.output, hst.size, fun k hk _ => hst.block k hk (by simp)⟩ (fun r e => by cases e)
  have hcl := cnE_le (fun e : Ed => decide (e.1 < (s : Int))) a.ed
  have hcl' := cnE_le (fun e : Ed => decide (e.1 < ((s + 1 : Nat) : Int))) a.ed
  obtain ⟨lo, hlo⟩ : ∃ lo : Nat, fS a.ed s = (lo : Int) := ⟨(fS a.ed s).toNat, by unfold fS; omega⟩
  obtain ⟨hi, hhi⟩ : ∃ hi : Nat, fS a.ed (s + 1) = (hi : Int) := ⟨(fS a.ed (s + 1)).toNat, by unfold fS; omega⟩
  obtain ⟨hseg, hhl, hlh⟩ := seg_out hso s lo hi hlo hhi
  have hel := hE.le
  have hol : (outE a.ed s).length = hi - lo := by rw [← hseg, List.length_take, List.length_drop]; omega
  have hmem : ∀ e ∈ outE a.ed s, e ∈ a.ed := fun e he => (outE_mem he).1
  have key : Ret Tryz.prog 92 [.func (.yield l) #[] #[], .pointer (some ⟨b1, 0, none⟩), .pointer (some ⟨b2, 0, none⟩)] W (fun _ W' => (∃ ys, ys.map (·.1) = outE a.ed s ∧ J ys W') ∨ (∃ pre, True ∧ Jx pre W')) := by
    refine Ret.of_G m Tryz.func92 rfl Tryz.ntmps92 Tryz.results92 (by simp) ?_
    have hB1' := hB1.ext hwW
    have hB2' := hB2.ext hwW
    have hBF' := hBF.ext hwW
    refine G_seq <| G_draw (Step [] W) [(0, true), (1, true), (2, true), (3, true), (4, true), (5, true), (6, true), (7, true), (8, true), (9, true), (10, true), (11, true), (12, true), (13, true), (14, true), (15, true), (16, true)] Tryz.mixed (by rfl) (by rfl) (by kernel_rfl) (Step.drew _ _) ?_
    refine p (fun _ => r_fieldB rfl) <| p (fun _ => r_fieldB rfl) <| pq (fun _ hc => r_loadB (hB1'.ext hc) rfl rfl) <| p (fun _ => r_fieldB rfl) <| pq (fun _ hc => r_loadB (hB1'.ext hc) rfl rfl) <| pq (fun _ hc => r_loadB (hB2'.ext hc) rfl rfl) <|
      p (fun _ => r_indexB (i := s) rfl rfl (by omega)) <| pq (fun _ hc => r_loadG (i := s) (hBF'.ext hc) rfl (by omega)) <| p (fun _ => r_fieldB rfl) <| pq (fun _ hc => r_loadB (hB1'.ext hc) rfl rfl) <|
      pq (fun _ hc => r_loadB (hB2'.ext hc) rfl rfl) <| p (fun _ => r_add rfl rfl ⟨by omega, by omega⟩) <| p (fun _ => r_indexB (i := s + 1) rfl rfl (by omega)) <| pq (fun _ hc => r_loadG (i := s + 1) (hBF'.ext hc) rfl (by omega)) <|
      pslB (lo := lo) (hi := hi) rfl hE rfl (congrArg (Value.int .i64) hlo) (congrArg (Value.int .i64) hhi) hlh hhl fun v20 hA20 => p (fun _ => r_lenA hA20 rfl) <| p (fun _ => r_move) <| pe ?_
    have hS : Eds L w.heap v20 (outE a.ed s) := by
      unfold Eds
      rw [hol, ← hseg, ← flat_take, ← flat_drop]; exact hA20
    have hd0 : Step [] W { W with drawn := W.drawn + 1 } := Step.drew _ _
    refine G_block <| G_loop (α := Nat × List { e : Ed // e ∈ a.ed }) [(5, 5), (22, 30)] (fun z => [(22, .int .i64 z.1)]) (fun z ds W' => ds = [] ∧ z.1 ≤ (outE a.ed s).length ∧ Step L w W' ∧ z.2.map (·.1) = (outE a.ed s).take z.1 ∧ J z.2 W') (fun z => (outE a.ed s).length - z.1) (by rfl) (0, []) ⟨rfl, trivial⟩
      ⟨rfl, Nat.zero_le _, (hwW.trans hd0).any, rfl, ab h0 hd0⟩ ?_
    rintro ⟨k, ys⟩ g ds w1 ⟨rfl, hk, hs1, hys, hJ1⟩
    simp only [] at hk hys hJ1
    refine G_seq <| G_region (by rfl) (by rfl) ?_
    refine x (r_lss rfl rfl) <| xe ?_
    refine G_seq <| G_ifn rfl (fun h23 => ?_) (fun h23 => ?_)
    · refine G_exit ?_
      have hke : (outE a.ed s).length ≤ k := by
        have h24 : ¬ (k : Int) < ((hi - lo : Nat) : Int) := h23
        omega
      rw [List.take_of_length_le hke] at hys
      exact ⟨fun _ h => (by cases h), List.nodup_nil, [], fun W' hW' => ⟨trivial, .inl ⟨ys, hys, ab hJ1 hW'⟩⟩⟩
    refine G_skip ?_
    have hlt : k < (outE a.ed s).length := by
      have h24 : (k : Int) < ((hi - lo : Nat) : Int) := h23
      omega
    have hel2 := outE_len a.ed s
    have htk : (outE a.ed s).take (k + 1) = (outE a.ed s).take k ++ [(outE a.ed s)[k]'hlt] := List.take_succ_eq_append_getElem hlt
    have hme := hmem _ (List.getElem_mem hlt)
    have hyl : ys.length = k := by have := congrArg List.length hys; rw [List.length_map, List.length_take] at this; omega
    refine exE ((outE a.ed s)[k]'hlt) fun e he => ?_
    rw [he] at htk hme
    refine G_seq <| G_block <| G_seq <| G_region (by rfl) (by rfl) ?_
    refine xie (i := k) (hS.st hs1) rfl rfl hlt fun a24 h24 => ?_
    rw [he] at h24
    refine x (r_loadsA h24 rfl rfl) <| xl rfl <| o_alloc (us := [.int .i64 0, .int .i64 0, .int .i64 0]) rfl fun b5 w2 hs2 hb5 hB5 => xl rfl <| o_stores (us := edCells e) hB5 rfl rfl rfl rfl ⟨rfl, rfl, rfl, trivial⟩ fun w3 hs3 hB5' => xe ?_
    have hs13 : Step [] w1 w3 := hs2.then1 hs3 hb5
    refine G_seq <| G_regionY (by rfl) ?_
    refine XLY.pre2 ?_
    refine x r_move <| x (r_loadsB hB5' rfl rfl) <| xe ?_
    refine xy (l := l) rfl (hY ys ⟨e, hme⟩ w3 (ab hJ1 hs13) (by omega)) fun en W3 hen => Or.elim hen (fun h1 => ⟨.bool true, h1.1, ?_⟩) (fun h1 => ⟨.bool false, h1.1, ?_⟩)
    · refine XLY.of_XL <| x (r_not rfl) <| xe ?_
      refine G_false rfl <| G_skip ?_
      refine G_region (by rfl) (by rfl) ?_
      refine x (r_add rfl rfl ⟨by omega, by omega⟩) <| x r_move <| xe ?_
      exact ⟨(k + 1, ys ++ [⟨e, hme⟩]), by simp only []; omega, ⟨rfl, trivial⟩, rfl, hlt, (hs1.trans hs13).lw h1.2.2, by rw [htk, List.map_append, hys]; rfl, h1.2.1⟩
    · refine XLY.of_XL <| x (r_not rfl) <| xe ?_
      refine G_true rfl ?_
      refine G_ret ⟨fun _ h => (by cases h), List.nodup_nil, [], fun W' hW' => ⟨trivial, .inr ⟨ys ++ [⟨e, hme⟩], trivial, ?_⟩⟩⟩
      exact hJx _ W3 W' none h1.2 ⟨hW'.os, hW'.tape, hW'.output, hW'.size, fun k hk _ => hW'.block k hk (by simp)⟩ (fun r e => by cases e)
  refine (callsIn_wide (n := m)).2 ?_
  have ea : (#[.func (.yield l) #[] #[]] ++ [.pointer (some ⟨b1, 0, none⟩), .pointer (some ⟨b2, 0, none⟩)].toArray : Array Value) = [.func (.yield l) #[] #[], .pointer (some ⟨b1, 0, none⟩), .pointer (some ⟨b2, 0, none⟩)].toArray := by simp
  rw [ea]
  unfold Ret at key
  refine Calls.mono key fun e w' he => ?_
  cases e with
  | returned v => exact ⟨⟨v, rfl⟩, he⟩
  | panicked c => exact he.elim
  | outgrown => exact he.elim
end Go.Proofs.YtfhgnlkdcdlblaaGreatDoor
/- Plain: every state of a product but the first one has an edge from a lesser state; the way back along first edges. -/
namespace Go.Proofs.YtfhgnlkdcdlblaaGreatDoor
open Go.Lg

def Par (n : Nat) (ed : List Ed) : Prop := ∀ j : Nat, 0 < j → j < n → ∃ e ∈ ed, e.2.2 = (j : Int) ∧ e.1 < (j : Int)
theorem syE_par {aa : List Aut} {i : Nat} {t : List Int} {s s' : Sy} {v : Int} (h : Par s.tup.length s.ed) (hi : i < s.tup.length) (e : syE aa i t s v = some s') : Par s'.tup.length s'.ed ∧ i < s'.tup.length := by
  unfold syE at e
  cases hs : stepT v aa t with
  | none => rw [hs] at e; cases e; exact ⟨h, hi⟩
  | some u =>
    rw [hs] at e
    simp only [] at e
    by_cases hu : u ∈ s.tup
    · rw [if_pos hu] at e
      cases e
      refine ⟨fun j h0 hj => ?_, hi⟩
      obtain ⟨d, hd, h1⟩ := h j h0 hj
      exact ⟨d, List.mem_append_left _ hd, h1⟩
    · rw [if_neg hu] at e
      split at e
      · cases e
      · cases e
        refine ⟨fun j h0 hj => ?_, by simp; omega⟩
        simp only [List.length_append, List.length_singleton] at hj
        by_cases hjl : j = s.tup.length
        · exact ⟨((i : Int), v, (s.tup.length : Int)), by simp, by rw [hjl], by simp only []; omega⟩
        · obtain ⟨d, hd, h1⟩ := h j h0 (by omega)
          exact ⟨d, List.mem_append_left _ hd, h1⟩
theorem syEs_par {aa : List Aut} {i : Nat} {t : List Int} : ∀ (vs : List Int) (s s' : Sy), Par s.tup.length s.ed → i < s.tup.length → syEs aa i t vs s = some s' → Par s'.tup.length s'.ed
  | [], s, s', h, _, e => by cases e; exact h
  | v :: vs, s, s', h, hi, e => by
    rw [syEs] at e
    obtain ⟨s1, h1, h2⟩ := Option.bind_eq_some_iff.1 e
    have := syE_par h hi h1
    exact syEs_par vs s1 s' this.1 this.2 h2
theorem syL_par {aa : List Aut} : ∀ (f i : Nat) (s s' : Sy), Par s.tup.length s.ed → syL aa f i s = some s' → Par s'.tup.length s'.ed
  | 0, i, s, s', h, e => by cases e; exact h
  | f + 1, i, s, s', h, e => by
    rw [syL] at e
    split at e
    · rename_i hi
      obtain ⟨s1, h1, h2⟩ := Option.bind_eq_some_iff.1 e
      have ht : (syMark aa i (syT s i) s).tup = s.tup := by unfold syMark; split <;> rfl
      have hed : (syMark aa i (syT s i) s).ed = s.ed := by unfold syMark; split <;> rfl
      refine syL_par f (i + 1) s1 s' (syEs_par _ _ s1 (by rw [ht, hed]; exact h) (by rw [ht]; exact hi) h1) h2
    · cases e; exact h
theorem sync_par {aa : List Aut} {A : Aut} {Q : List (List Int)} (h : sync aa = some (A, Q)) : Par Q.length A.ed := by
  unfold sync at h
  split at h
  · cases h; intro j _ hj; simp at hj
  · obtain ⟨s, h1, h2⟩ := Option.map_eq_some_iff.1 h
    cases h2
    exact syL_par 4096 0 (sy0 aa) s (fun j h0 hj => by simp [sy0] at hj; omega) h1
/-- The first edge to a state. -/
def fto (ed : List Ed) (s : Int) : Ed := (ed.find? fun e => e.2.2 == s).getD (0, 0, 0)
theorem fto_spec {n : Nat} {ed : List Ed} (hp : Par n ed) (hs : ed.Pairwise fun x y => x.1 ≤ y.1) {j : Nat} (h0 : 0 < j) (hj : j < n) : fto ed j ∈ ed ∧ (fto ed j).2.2 = (j : Int) ∧ (fto ed j).1 < (j : Int) := by
  obtain ⟨e, he, h1, h2⟩ := hp j h0 hj
  have hf : ∃ d, ed.find? (fun e => e.2.2 == (j : Int)) = some d := by
    cases hf : ed.find? (fun e => e.2.2 == (j : Int)) with
    | none => rw [List.find?_eq_none] at hf; have := hf e he; simp [h1] at this
    | some d => exact ⟨d, rfl⟩
  obtain ⟨d, hd⟩ := hf
  have e1 : fto ed j = d := by unfold fto; rw [hd]; rfl
  rw [e1]
  obtain ⟨hdp, pre, post, heq, hno⟩ := List.find?_eq_some_iff_append.1 hd
  have hdj : d.2.2 = (j : Int) := by simpa using hdp
  refine ⟨by rw [heq]; simp, hdj, ?_⟩
  rw [heq] at he hs
  rcases List.mem_append.1 he with h3 | h3
  · have := hno e h3; simp [h1] at this
  · rcases List.mem_cons.1 h3 with rfl | h3
    · exact h2
    · have := (List.pairwise_cons.1 (List.pairwise_append.1 hs).2.1).1 e h3
      omega
/-- The events on the way back. -/
def bak (ed : List Ed) : Nat → Int → List Int
  | 0, _ => []
  | f + 1, s => if 0 < s then (fto ed s).2.1 :: bak ed f (fto ed s).1 else []
end Go.Proofs.YtfhgnlkdcdlblaaGreatDoor
/- The least word to a state: reach.path as plain functions; where all states are reached it finds one. -/
namespace Go.Proofs.YtfhgnlkdcdlblaaGreatDoor
open Go.Lg

def stS (st : List Ed) : List Int := st.map (·.1)
def gE (st : List Ed) (k : Nat) : Ed := st.getD k (0, -1, 0)
theorem gE_eq {st : List Ed} {k : Nat} (h : k < st.length) : st[k]'h = gE st k := by simp [gE, List.getD, h]
theorem gE_mem {st : List Ed} {k : Nat} (h : k < st.length) : gE st k ∈ st := by rw [← gE_eq h]; exact List.getElem_mem h
def addP (pm : Ed → Bool) (i : Nat) (st : List Ed) (e : Ed) : List Ed := if e.2.2 ∉ stS st ∧ pm e = true then st ++ [(e.2.2, (i : Int), e.2.1)] else st
def wrd (st : List Ed) : Nat → Nat → List Int
  | 0, _ => []
  | f + 1, k => if 0 ≤ (gE st k).2.1 then (gE st k).2.2 :: wrd st f (gE st k).2.1.toNat else []
def pthL (wt : Int → Bool) (pm : Ed → Bool) (es : List Ed) : Nat → Nat → List Ed → List Int × Bool
  | 0, _, _ => ([], false)
  | f + 1, i, st => if i < st.length then (if wt (gE st i).1 = true then ((wrd st (i + 1) i).reverse, true) else pthL wt pm es f (i + 1) ((outE es (gE st i).1).foldl (addP pm i) st)) else ([], false)
/-- The word, and whether there is one. -/
def pth (wt : Int → Bool) (pm : Ed → Bool) (es : List Ed) (n from0 : Nat) : List Int × Bool := pthL wt pm es (n + 1) 0 [((from0 : Int), -1, -1)]
structure PtOk (n : Nat) (st : List Ed) : Prop where
  nd : (stS st).Nodup
  rg : ∀ x ∈ st, 0 ≤ x.1 ∧ x.1 < (n : Int)
  par : ∀ k, k < st.length → (gE st k).2.1 = -1 ∨ (0 ≤ (gE st k).2.1 ∧ (gE st k).2.1 < (k : Int))
theorem PtOk.le {n : Nat} {st : List Ed} (h : PtOk n st) : st.length ≤ n := by
  have := pig n (stS st) h.nd (fun x hx => by
    unfold stS at hx
    obtain ⟨y, hy, rfl⟩ := List.mem_map.1 hx
    exact h.rg y hy)
  simpa [stS] using this
theorem gE_snoc {st : List Ed} {x : Ed} {k : Nat} (h : k < st.length) : gE (st ++ [x]) k = gE st k := by
  unfold gE; simp [List.getD, List.getElem?_append_left h]
theorem gE_last (st : List Ed) (x : Ed) : gE (st ++ [x]) st.length = x := by
  unfold gE; simp [List.getD]
theorem addP_ok {n i : Nat} {pm : Ed → Bool} {st : List Ed} {e : Ed} (h : PtOk n st) (hi : i < st.length) (he : 0 ≤ e.2.2 ∧ e.2.2 < (n : Int)) : PtOk n (addP pm i st e) ∧ i < (addP pm i st e).length := by
  unfold addP
  split
  · rename_i hc
    refine ⟨⟨?_, fun x hx => ?_, fun k hk => ?_⟩, by simp; omega⟩
    · unfold stS at hc ⊢
      rw [List.map_append]
      exact nodup_snoc h.nd hc.1
    · simp only [List.mem_append, List.mem_singleton] at hx
      rcases hx with hx | rfl
      · exact h.rg x hx
      · exact he
    · by_cases hkl : k < st.length
      · rw [gE_snoc hkl]; exact h.par k hkl
      · have : k = st.length := by simp at hk; omega
        subst this
        rw [gE_last]
        simp only []; omega
  · exact ⟨h, hi⟩
theorem pt0_ok {n from0 : Nat} (h : from0 < n) : PtOk n [((from0 : Int), -1, -1)] := by
  refine ⟨by simp [stS], fun x hx => ?_, fun k hk => ?_⟩
  · simp at hx; subst hx; simp only []; omega
  · simp at hk; subst hk; exact .inl rfl
theorem pthL_done {wt : Int → Bool} {pm : Ed → Bool} {es : List Ed} {f i : Nat} {st : List Ed} (h : ¬ i < st.length) : pthL wt pm es f i st = ([], false) := by
  cases f with
  | zero => rfl
  | succ f => rw [pthL, if_neg h]

/-! ### Where every state is reached, a wanted one is found -/
theorem addP_pre (pm : Ed → Bool) (i : Nat) (st : List Ed) (e : Ed) : st <+: addP pm i st e := by
  unfold addP; split
  · exact List.prefix_append _ _
  · exact List.prefix_refl _
theorem addPs_pre (pm : Ed → Bool) (i : Nat) : ∀ (l : List Ed) (st : List Ed), st <+: l.foldl (addP pm i) st
  | [], _ => List.prefix_refl _
  | e :: l, st => (addP_pre pm i st e).trans (addPs_pre pm i l _)
theorem addPs_ok {n i : Nat} {pm : Ed → Bool} : ∀ (l : List Ed) (st : List Ed), PtOk n st → i < st.length → (∀ e ∈ l, 0 ≤ e.2.2 ∧ e.2.2 < (n : Int)) → PtOk n (l.foldl (addP pm i) st) ∧ i < (l.foldl (addP pm i) st).length
  | [], _, h, hi, _ => ⟨h, hi⟩
  | e :: l, st, h, hi, hl => by
    have h1 := addP_ok (pm := pm) h hi (hl e List.mem_cons_self)
    exact addPs_ok l _ h1.1 h1.2 (fun d hd => hl d (List.mem_cons_of_mem _ hd))
theorem gE_pre {st st' : List Ed} (h : st <+: st') {k : Nat} (hk : k < st.length) : gE st' k = gE st k := by
  obtain ⟨r, rfl⟩ := h
  unfold gE; simp [List.getD, List.getElem?_append_left hk]
theorem stS_pre {st st' : List Ed} (h : st <+: st') {x : Int} (hx : x ∈ stS st) : x ∈ stS st' := by
  obtain ⟨r, rfl⟩ := h
  unfold stS at *; rw [List.map_append]; exact List.mem_append_left _ hx
theorem addPs_mem {pm : Ed → Bool} {i : Nat} : ∀ (l : List Ed) (st : List Ed), (∀ e ∈ l, pm e = true) → ∀ e ∈ l, e.2.2 ∈ stS (l.foldl (addP pm i) st)
  | [], _, _, e, he => by cases he
  | d :: l, st, h, e, he => by
    rcases List.mem_cons.1 he with rfl | he
    · refine stS_pre (addPs_pre pm i l _) ?_
      unfold addP
      by_cases hc : e.2.2 ∈ stS st
      · rw [if_neg (fun h => h.1 hc)]; exact hc
      · rw [if_pos ⟨hc, h e List.mem_cons_self⟩]
        unfold stS; rw [List.map_append]; simp
    · exact addPs_mem l _ (fun e he => h e (List.mem_cons_of_mem _ he)) e he
theorem pthL_found {wt : Int → Bool} {pm : Ed → Bool} {es : List Ed} {n : Nat} (hpar : Par n es) (hes : ∀ e ∈ es, 0 ≤ e.1 ∧ 0 ≤ e.2.2 ∧ e.2.2 < (n : Int)) (hpm : ∀ e ∈ es, pm e = true) {s : Nat} (hs : s < n) (hw : wt s = true) :
    ∀ (f i : Nat) (st : List Ed), PtOk n st → (0 : Int) ∈ stS st → n + 1 ≤ f + i → (∀ k, k < i → k < st.length → wt (gE st k).1 = false ∧ ∀ e ∈ es, e.1 = (gE st k).1 → e.2.2 ∈ stS st) → (pthL wt pm es f i st).2 = true := by
  have fin : ∀ (i : Nat) (st : List Ed), PtOk n st → (0 : Int) ∈ stS st → ¬ i < st.length → (∀ k, k < i → k < st.length → wt (gE st k).1 = false ∧ ∀ e ∈ es, e.1 = (gE st k).1 → e.2.2 ∈ stS st) → False := by
    intro i st hok h0 hi hcl
    have idx : ∀ x ∈ stS st, ∃ k, k < st.length ∧ (gE st k).1 = x := by
      intro x hx
      unfold stS at hx
      obtain ⟨y, hy, rfl⟩ := List.mem_map.1 hx
      obtain ⟨k, hk, rfl⟩ := List.getElem_of_mem hy
      exact ⟨k, hk, by rw [gE_eq hk]⟩
    have all : ∀ (m j : Nat), j < m → j < n → (j : Int) ∈ stS st := by
      intro m
      induction m with
      | zero => intro j hj; omega
      | succ m ih =>
        intro j hj hjn
        by_cases hj0 : j = 0
        · subst hj0; exact h0
        · obtain ⟨e, he, h1, h2⟩ := hpar j (by omega) hjn
          have he0 := (hes e he).1
          have h3 := ih e.1.toNat (by omega) (by omega)
          have h4 : ((e.1.toNat : Nat) : Int) = e.1 := by omega
          rw [h4] at h3
          obtain ⟨k, hk, hke⟩ := idx _ h3
          have h5 := (hcl k (by omega) hk).2 e he hke.symm
          rw [h1] at h5; exact h5
    obtain ⟨k, hk, hke⟩ := idx _ (all (s + 1) s (by omega) hs)
    have := (hcl k (by omega) hk).1
    rw [hke, hw] at this; cases this
  intro f
  induction f with
  | zero =>
    intro i st hok h0 hf hcl
    have := hok.le
    exact (fin i st hok h0 (by omega) hcl).elim
  | succ f ih =>
    intro i st hok h0 hf hcl
    by_cases hi : i < st.length
    · rw [pthL, if_pos hi]
      split
      · rfl
      · rename_i hwn
        have ho := fun e (he : e ∈ outE es (gE st i).1) => outE_mem he
        have hk := addPs_ok (pm := pm) (outE es (gE st i).1) st hok hi (fun e he => (hes e (ho e he).1).2)
        have hpre := addPs_pre pm i (outE es (gE st i).1) st
        have hl : st.length ≤ ((outE es (gE st i).1).foldl (addP pm i) st).length := hpre.length_le
        refine ih (i + 1) _ hk.1 (stS_pre hpre h0) (by omega) (fun k hki hkl => ?_)
        by_cases e : k = i
        · subst e
          rw [gE_pre hpre hi]
          refine ⟨by simpa using hwn, fun e he h1 => ?_⟩
          exact addPs_mem _ st (fun d hd => hpm d (ho d hd).1) e (by unfold outE; simp [he, h1])
        · have hks : k < st.length := by omega
          rw [gE_pre hpre hks]
          have := hcl k (by omega) hks
          exact ⟨this.1, fun e he h1 => stS_pre hpre (this.2 e he h1)⟩
    · exact (fin i st hok h0 hi hcl).elim
theorem pth_found {wt : Int → Bool} {pm : Ed → Bool} {es : List Ed} {n : Nat} (hpar : Par n es) (hes : ∀ e ∈ es, 0 ≤ e.1 ∧ 0 ≤ e.2.2 ∧ e.2.2 < (n : Int)) (hpm : ∀ e ∈ es, pm e = true) {s : Nat} (hs : s < n) (hw : wt s = true) : (pth wt pm es n 0).2 = true :=
  pthL_found hpar hes hpm hs hw (n + 1) 0 _ (pt0_ok (by omega)) (by simp [stS]) (by omega) (fun k hk => by omega)
end Go.Proofs.YtfhgnlkdcdlblaaGreatDoor
/- Contract: reach.path (its loop over a function within a loop). -/
namespace Go.Proofs.YtfhgnlkdcdlblaaGreatDoor
open Go.Lg

structure PI (w0 : World) (b4 b7 b10 b11 bS n : Nat) (gc : List Value) (pf : Value) (bi i : Nat) (vs : Value) (st : List Ed) (W : World) : Prop where
  stp : Step [] w0 W
  B4 : Blk W.heap b4 89 gc
  B7 : Blk W.heap b7 86 [pf]
  B10 : Blk W.heap b10 125 [vs]
  B11 : Blk W.heap b11 93 [.slice (some ⟨bS, 0, none⟩) n n]
  BS : Blk W.heap bS 4 ((flg n (stS st)).map Value.bool)
  BI : Blk W.heap bi 3 [.int .i64 i]
  R : EdsO 124 w0.heap.size W vs st
  ne : ∀ b ∈ ob vs, b ≠ b4 ∧ b ≠ b7 ∧ b ≠ b10 ∧ b ≠ b11 ∧ b ≠ bS ∧ b ≠ bi
theorem PI.ext {w0 : World} {b4 b7 b10 b11 bS n : Nat} {gc : List Value} {pf : Value} {bi i : Nat} {vs : Value} {st : List Ed} {W W' : World} (h : PI w0 b4 b7 b10 b11 bS n gc pf bi i vs st W) (hs : Step [] W W') : PI w0 b4 b7 b10 b11 bS n gc pf bi i vs st W' :=
  ⟨h.stp.trans hs, h.B4.ext hs, h.B7.ext hs, h.B10.ext hs, h.B11.ext hs, h.BS.ext hs, h.BI.ext hs, own_ext h.R hs, h.ne⟩
theorem PI.stb {w0 : World} {b4 b7 b10 b11 bS n : Nat} {gc : List Value} {pf : Value} {bi i : Nat} {vs : Value} {st : List Ed} {B : Nat} (hB : w0.heap.size ≤ B) : Stb B (fun W => PI w0 b4 b7 b10 b11 bS n gc pf bi i vs st W) := fun W W' X h hs hX =>
  ⟨Stb.step hB W W' X h.stp hs hX, Stb.blk W W' X h.B4 hs hX, Stb.blk W W' X h.B7 hs hX, Stb.blk W W' X h.B10 hs hX, Stb.blk W W' X h.B11 hs hX, Stb.blk W W' X h.BS hs hX, Stb.blk W W' X h.BI hs hX, Stb.row W W' X h.R hs hX, h.ne⟩
/-- The blocks of deferred calls. -/
def DsK (lo hi : Nat) (ds : List Nat) (W : World) : Prop := ds.Nodup ∧ ∀ D ∈ ds, lo ≤ D ∧ D < hi ∧ W.heap[D]? = some (.deferred (some []))
theorem DsK.step {lo hi : Nat} {ds : List Nat} {W W' : World} {X : List Nat} (h : DsK lo hi ds W) (hs : Step X W W') (hX : ∀ b ∈ X, ∃ o : Obj, W.heap[b]? = some o ∧ o.isCells = true) : DsK lo hi ds W' := by
  refine ⟨h.1, fun D hD => ⟨(h.2 D hD).1, (h.2 D hD).2.1, ?_⟩⟩
  have h3 := (h.2 D hD).2.2
  refine (hs.block D (Array.getElem?_eq_some_iff.1 h3).1 (fun hx => ?_)).trans h3
  obtain ⟨o, h4, h5⟩ := hX D hx
  rw [h3] at h4; cases h4; cases h5
theorem DsK.ext {lo hi : Nat} {ds : List Nat} {W W' : World} (h : DsK lo hi ds W) (hs : Step [] W W') : DsK lo hi ds W' := h.step hs (fun _ hb => by cases hb)
theorem DsK.blk {lo hi : Nat} {ds : List Nat} {W W' : World} {b T : Nat} {cs : List Value} (h : DsK lo hi ds W) (hs : Step [b] W W') (hb : Blk W.heap b T cs) : DsK lo hi ds W' :=
  h.step hs (fun c hc => by have e : c = b := by simpa using hc
                            subst e; exact hb.cells)
theorem DsK.up {lo hi hi' : Nat} {ds : List Nat} {W : World} (h : DsK lo hi ds W) (hh : hi ≤ hi') : DsK lo hi' ds W := ⟨h.1, fun D hD => ⟨(h.2 D hD).1, by have := (h.2 D hD).2.1; omega, (h.2 D hD).2.2⟩⟩
theorem DsK.cons {lo hi : Nat} {ds : List Nat} {W : World} {D : Nat} (h : DsK lo hi ds W) (hl : lo ≤ hi) (hD : hi ≤ D) (hd : W.heap[D]? = some (.deferred (some []))) : DsK lo W.heap.size (D :: ds) W := by
  have hlt := (Array.getElem?_eq_some_iff.1 hd).1
  refine ⟨List.nodup_cons.2 ⟨fun hm => by have := (h.2 D hm).2.1; omega, h.1⟩, fun E hE => ?_⟩
  rcases List.mem_cons.1 hE with rfl | hE
  · exact ⟨by omega, hlt, hd⟩
  · have := h.2 E hE
    exact ⟨this.1, (Array.getElem?_eq_some_iff.1 this.2.2).1, this.2.2⟩
theorem DsK.stb {lo hi B : Nat} {ds : List Nat} (hh : hi ≤ B) : Stb B (fun W => DsK lo hi ds W) := fun W W' X h hs hX => by
  refine ⟨h.1, fun D hD => ⟨(h.2 D hD).1, (h.2 D hD).2.1, ?_⟩⟩
  have h3 := (h.2 D hD).2.2
  refine (hs.block D (Array.getElem?_eq_some_iff.1 h3).1 (fun hx => ?_)).trans h3
  have := (hX D hx).1
  have := (h.2 D hD).2.1
  omega
theorem DsK.own {lo hi : Nat} {ds : List Nat} {W : World} {base e sz n : Nat} {v : Value} {cs : List Value} (h : DsK lo hi ds W) (ho : W.ownsRow base e sz v n cs) : ∀ b ∈ ob v, b ∉ ds := fun b hb hd => by
  obtain ⟨o, h1, h2⟩ := own_cells ho b hb
  rw [(h.2 b hd).2.2] at h1; cases h1; cases h2
theorem DsK.rst {lo hi B : Nat} {L ds : List Nat} {W W' : World} (h : DsK lo hi ds W) (hs : RSt B L W W') : DsK lo hi ds W' := ⟨h.1, fun D hD => ⟨(h.2 D hD).1, (h.2 D hD).2.1, hs.other D _ (h.2 D hD).2.2 rfl⟩⟩
theorem PI.add {w0 : World} {b4 b7 b10 b11 bS n : Nat} {gc : List Value} {pf : Value} {bi i : Nat} {v v' : Value} {st : List Ed} {x : Ed} {W W1 W2 W3 W4 : World} {B : Nat} {L0 : List Nat} (h : PI w0 b4 b7 b10 b11 bS n gc pf bi i v st W)
    (hd : bS ≠ b4 ∧ bS ≠ b7 ∧ bS ≠ b10 ∧ bS ≠ b11 ∧ bS ≠ bi ∧ b10 ≠ b4 ∧ b10 ≠ b7 ∧ b10 ≠ b11 ∧ b10 ≠ bi) (hB : B ≤ W.heap.size) (hbS : w0.heap.size ≤ bS) (hb10 : w0.heap.size ≤ b10) (hlt : b4 < W.heap.size ∧ b7 < W.heap.size ∧ b11 < W.heap.size ∧ bi < W.heap.size)
    (h1 : Step [bS] W W1) (hS : Blk W1.heap bS 4 ((flg n (stS (st ++ [x]))).map Value.bool)) (h2 : Step [] W1 W2) (h3 : Step (ob v) W2 W3) (hR : EdsO 124 w0.heap.size W3 v' (st ++ [x])) (hn : ∀ b ∈ ob v', b ∈ ob v ∨ W2.heap.size ≤ b)
    (h4 : Step [b10] W3 W4) (h10 : Blk W4.heap b10 125 [v']) (hv : ∀ b ∈ ob v, b ∈ L0 ∨ B ≤ b) :
    PI w0 b4 b7 b10 b11 bS n gc pf bi i v' (st ++ [x]) W4 ∧ RSt B (bS :: b10 :: L0) W W4 ∧ (∀ b ∈ ob v', b ∈ L0 ∨ B ≤ b) := by
  have hz1 := h1.size
  have hz2 := h2.size
  have hz3 := h3.size
  have hlS := h.BS.lt
  have hl10 := h.B10.lt
  have key : ∀ b T cs, Blk W.heap b T cs → b ≠ bS → b ∉ ob v → b ≠ b10 → Blk W4.heap b T cs := fun b T cs hb e1 e2 e3 => (((hb.step h1 (by simpa using e1)).ext h2).step h3 e2).step h4 (by simpa using e3)
  have hne := h.ne
  have nin : ∀ b, (∀ c ∈ ob v, c ≠ b) → b ∉ ob v := fun b hb hm => hb b hm rfl
  have hb10v : b10 ∉ ob v := nin _ fun c hc => (hne c hc).2.2.1
  have hbSv : bS ∉ ob v := nin _ fun c hc => (hne c hc).2.2.2.2.1
  have hRow : W2.ownsRow w0.heap.size 124 3 v st.length (st.flatMap edCells) := own_ext (own_step h.R h1 (fun b hb => by have := (hne b hb).2.2.2.2.1; simpa using this)) h2
  have hge : ∀ b ∈ ob v', b ≠ b4 ∧ b ≠ b7 ∧ b ≠ b10 ∧ b ≠ b11 ∧ b ≠ bS ∧ b ≠ bi := fun b hb => by
    rcases hn b hb with hb | hb
    · exact hne b hb
    · omega
  refine ⟨⟨?_, key _ _ _ h.B4 hd.1.symm (nin _ fun c hc => (hne c hc).1) hd.2.2.2.2.2.1.symm, key _ _ _ h.B7 hd.2.1.symm (nin _ fun c hc => (hne c hc).2.1) hd.2.2.2.2.2.2.1.symm, h10,
    key _ _ _ h.B11 hd.2.2.2.1.symm (nin _ fun c hc => (hne c hc).2.2.2.1) hd.2.2.2.2.2.2.2.1.symm, ((hS.ext h2).step h3 hbSv).step h4 (by have := hd.2.2.1; simpa using this), key _ _ _ h.BI hd.2.2.2.2.1.symm (nin _ fun c hc => (hne c hc).2.2.2.2.2) hd.2.2.2.2.2.2.2.2.symm,
    own_step hR h4 (fun b hb => by have := (hge b hb).2.2.1; simpa using this), hge⟩, ?_, fun b hb => ?_⟩
  · exact (((h.stp.then1 h1 hbS).trans h2).then h3 (fun b hb => .inr (own_ge h.R b hb).1)).then1 h4 hb10
  · have r1 : RSt B (bS :: b10 :: L0) W W1 := RSt.blk h1 hB h.BS (.inl (by simp))
    have r2 : RSt B (bS :: b10 :: L0) W1 W2 := RSt.ext h2 (by omega)
    have r3 : RSt B (bS :: b10 :: L0) W2 W3 := RSt.step h3 (by omega) (fun b hb => ⟨(hv b hb).imp (fun h => by simp [h]) id, own_cells hRow b hb⟩)
    have r4 : RSt B (bS :: b10 :: L0) W3 W4 := RSt.blk h4 (by omega) ((((h.B10.step h1 (by have := hd.2.2.1; simpa using this.symm)).ext h2).step h3 hb10v)) (.inl (by simp))
    exact ((r1.trans r2).trans r3).trans r4
  · rcases hn b hb with hb | hb
    · exact hv b hb
    · exact .inr (by omega)
theorem flg_at {n : Nat} {l : List Int} {x : Int} (h0 : 0 ≤ x) (h1 : x < (n : Int)) : ((flg n l).map Value.bool)[0 + x.toNat * 1]? = some (.bool (decide (x ∈ l))) := by
  have hlt : x.toNat < (flg n l).length := by rw [flg_len]; omega
  have e : ((x.toNat : Nat) : Int) = x := by omega
  simp only [Nat.zero_add, Nat.mul_one, List.getElem?_map, List.getElem?_eq_getElem hlt, Option.map_some, flg_get, e]

theorem path_ok {w : World} {va vm ve : Value} {a : Aut} {n bF from0 gw gp : Nat} {fw fp : Func} [Fu Tryz.prog gw fw] [Fu Tryz.prog gp fp] {cw cp : List Value} {wt : Int → Bool} {pm : Ed → Bool}
    (hA : AutA [] w.heap va vm ve a) (hn : a.st = (n : Int)) (hst1 : n ≤ 4096) (hed : ∀ e ∈ a.ed, 0 ≤ e.2.2 ∧ e.2.2 < (n : Int)) (hso : a.ed.Pairwise fun x y => x.1 ≤ y.1) (hBF : Blk w.heap bF 3 ((gA (n + 1) (fS a.ed)).map (Value.int .i64))) (hf : from0 < n)
    (hwt : ∀ (s : Int) (w' : World), 0 ≤ s → s < (n : Int) → Step [] w w' → Ret Tryz.prog gw (.int .i64 s :: cw) w' fun r w'' => r = .bool (wt s) ∧ Step [] w' w'')
    (hpm : ∀ (e : Ed) (w' : World), e ∈ a.ed → Step [] w w' → Ret Tryz.prog gp (.agg (edCells e).toArray :: cp) w' fun r w'' => r = .bool (pm e) ∧ Step [] w' w'') :
    Ret Tryz.prog 41 [.agg #[va, .int .i64 a.st, vm, ve, .slice (some ⟨bF, 0, none⟩) (n + 1) (n + 1)], .int .i64 from0, .func (.func gw) #[] cw.toArray, .func (.func gp) #[] cp.toArray] w fun r w' =>
      Step [] w w' ∧ ∃ v, r = .tuple #[v, .bool (pth wt pm a.ed n from0).2] ∧ IntsO 3 w.heap.size w' v (pth wt pm a.ed n from0).1 := by
  refine Ret.of_G 3 Tryz.func41 rfl Tryz.ntmps41 Tryz.results41 (by simp) ?_
  refine G_seq <| G_region (by rfl) (by rfl) ?_
  refine xl rfl <| o_box (us := [va, .int .i64 a.st, vm, ve, .slice (some ⟨bF, 0, none⟩) (n + 1) (n + 1)]) rfl fun b4 w1 hs1 hb4 hB4 => xl rfl <| o_box (us := [.func (.func gp) #[] cp.toArray]) rfl fun b7 w2 hs2 hb7 hB7 => x r_assign <| x r_assign <| xe ?_
  refine G_seq <| G_region (by rfl) (by rfl) ?_
  refine x r_move <| x (r_build ⟨rfl, rfl, rfl, trivial⟩) <| xl rfl <| o_lits (us := [[.int .i64 from0, .int .i64 (-1), .int .i64 (-1)]]) rfl rfl (by decide) (by simp) ⟨rfl, rfl, trivial⟩ fun bL w3 hs3 hbL hBL =>
    xl rfl <| o_alloc (us := [.slice none 0 0]) rfl fun b10 w4 hs4 hb10 hB10 => xl rfl <| o_store (u := .slice (some ⟨bL, 0, none⟩) 1 1) hB10 rfl rfl (by decide) rfl fun w5 hs5 hB10' => xe ?_
  have hl4 := hB4.lt
  have hl7 := hB7.lt
  have hlL := hBL.lt
  have hl10 := hB10.lt
  have hz1 := hs1.size
  have hz2 := hs2.size
  have hz3 := hs3.size
  have hz4 := hs4.size
  have hz5 := hs5.size
  have hs15 : Step [] w1 w5 := ((hs2.trans hs3).trans hs4).then1 hs5 (by omega)
  have hs25 : Step [] w2 w5 := (hs3.trans hs4).then1 hs5 (by omega)
  have hs35 : Step [] w3 w5 := hs4.then1 hs5 (by omega)
  refine G_seq <| G_region (by rfl) (by rfl) ?_
  refine x (r_fieldB rfl) <| x (r_fieldB rfl) <| x (r_loadB (hB4.ext hs15) rfl rfl) <| xl rfl <| o_make (n := n) (congrArg (Value.int .i64) hn) (congrArg (Value.int .i64) hn) (by omega) fun bS w6 hs6 hbS hBS => xl rfl <| o_alloc (us := [.slice none 0 0]) rfl fun b11 w7 hs7 hb11 hB11 =>
    xl rfl <| o_store (u := .slice (some ⟨bS, 0, none⟩) n n) hB11 rfl rfl (by decide) rfl fun w8 hs8 hB11' => xe ?_
  have hlS := hBS.lt
  have hl11 := hB11.lt
  have hz6 := hs6.size
  have hz7 := hs7.size
  have hz8 := hs8.size
  have hs58 : Step [] w5 w8 := (hs6.trans hs7).then1 hs8 (by omega)
  have hs68 : Step [] w6 w8 := hs7.then1 hs8 (by omega)
  have hBS0 : Blk w6.heap bS 4 ((flg n []).map Value.bool) := by
    have e : (List.replicate n (Value.bool false).cells.toList).flatten = (flg n []).map Value.bool := by
      simp only [flg, List.not_mem_nil, decide_false, List.map_map]
      apply List.ext_getElem
      · simp [Value.cells]
      · intro i h1 h2
        simp [Value.cells]
    rw [← e]; exact hBS
  refine G_seq <| G_region (by rfl) (by rfl) ?_
  refine x (r_loadB hB11' rfl rfl) <| x r_move <| x (r_indexB (i := from0) rfl rfl hf) <| xl rfl <| o_store (j := 0 + from0 * 1) (u := .bool true) (hBS0.ext hs68) rfl rfl (by rw [List.length_map, flg_len]; omega) rfl fun w9 hs9 hBS9 => xe ?_
  have hz9 := hs9.size
  have hBS9' : Blk w9.heap bS 4 ((flg n [(from0 : Int)]).map Value.bool) := by
    have e1 := flg_set (n := n) (l := []) (x := (from0 : Int)) (by omega)
    rw [List.nil_append] at e1
    rw [← e1, List.map_set]
    simpa using hBS9
  refine G_seq <| G_seq <| G_region (by rfl) (by rfl) ?_
  refine xl rfl <| o_alloc (us := [.int .i64 0]) rfl fun b12 w10 hs10 hb12 hB12 => xl rfl <| o_store (u := .int .i64 0) hB12 rfl rfl (by decide) rfl fun w11 hs11 hB12' => xe ?_
  have hl12 := hB12.lt
  have hz10 := hs10.size
  have hz11 := hs11.size
  have hs911 : Step [] w9 w11 := hs10.then1 hs11 hb12
  have hst0 : Step [] w w11 := (((hs1.trans hs15).trans hs58).then1 hs9 (by omega)).trans hs911
  have hPI : PI w b4 b7 b10 b11 bS n [va, .int .i64 a.st, vm, ve, .slice (some ⟨bF, 0, none⟩) (n + 1) (n + 1)] (.func (.func gp) #[] cp.toArray) b12 0 (.slice (some ⟨bL, 0, none⟩) 1 1) [((from0 : Int), -1, -1)] w11 := by
    refine ⟨hst0, (((hB4.ext hs15).ext hs58).step hs9 (by simp; omega)).ext hs911, (((hB7.ext hs25).ext hs58).step hs9 (by simp; omega)).ext hs911, ((hB10'.ext hs58).step hs9 (by simp; omega)).ext hs911,
      (hB11'.step hs9 (by simp; omega)).ext hs911, hBS9'.ext hs911, hB12', ?_, fun b hb => ?_⟩
    · have hBL11 := (((hBL.ext hs35).ext hs58).step hs9 (by simp; omega)).ext hs911
      exact hBL11.own (n := 1) (sz := 3) rfl (by omega) (by omega)
    · have e : b = bL := by simpa [ob] using hb
      subst e; omega
  have hel := hA.ed.le
  refine G_block <| G_loop (α := Nat × Nat × Nat × Value × List Ed) [(8, 9), (12, 15), (26, 68), (70, 94)] (fun z => [(12, .pointer (some ⟨z.2.1, 0, none⟩))])
    (fun z ds W => PI w b4 b7 b10 b11 bS n [va, .int .i64 a.st, vm, ve, .slice (some ⟨bF, 0, none⟩) (n + 1) (n + 1)] (.func (.func gp) #[] cp.toArray) z.2.1 z.1 z.2.2.2.1 z.2.2.2.2 W ∧ PtOk n z.2.2.2.2 ∧ DsK w.heap.size W.heap.size ds W ∧ w11.heap.size ≤ W.heap.size ∧
      (z.2.1 ≠ b4 ∧ z.2.1 ≠ b7 ∧ z.2.1 ≠ b10 ∧ z.2.1 ≠ b11 ∧ z.2.1 ≠ bS) ∧ w.heap.size ≤ z.2.1 ∧ z.1 ≤ z.2.2.2.2.length ∧ n + 1 ≤ z.2.2.1 + z.1 ∧ pthL wt pm a.ed z.2.2.1 z.1 z.2.2.2.2 = pth wt pm a.ed n from0)
    (fun z => n + 1 - z.1) (by rfl) (0, b12, n + 1, .slice (some ⟨bL, 0, none⟩) 1 1, [((from0 : Int), -1, -1)]) ⟨rfl, trivial⟩
    ⟨hPI, pt0_ok hf, ⟨List.nodup_nil, fun _ h => by cases h⟩, Nat.le_refl _, by simp only []; omega, by simp only []; omega, by simp, by simp, rfl⟩ ?_
  rintro ⟨i, bi, fu, vs, st⟩ g ds w12 ⟨hP, hok, hds, hz12, hbi, hbi0, hil, hfu, hres⟩
  simp only [] at hP hok hds hbi hbi0 hil hfu hres
  have hstl := hok.le
  refine G_seq <| G_seq <| G_region (by rfl) (by rfl) ?_
  refine x (r_loadB hP.BI rfl rfl) <| x (r_loadB hP.B10 rfl rfl) <| x (r_lenA (own_arr (L := []) hP.R (by omega) (by simp)) rfl) <| x (r_lss rfl rfl) <| xe ?_
  refine G_ifn rfl (fun h29 => ?_) (fun h29 => ?_)
  · refine G_exit ?_
    have hie : ¬ i < st.length := by have h30 : ¬ (i : Int) < (st.length : Int) := h29; omega
    rw [pthL_done hie] at hres
    refine G_seq <| G_region (by rfl) (by rfl) ?_
    refine x r_assign <| x r_assign <| xe ?_
    refine G_ret ⟨fun D hD => (hds.2 D hD).2.2, hds.1, [.slice none 0 0, .bool false], fun w' hw' => ⟨⟨rfl, rfl, trivial⟩, hP.stp.then hw' (fun D hD => .inr (hds.2 D hD).1), _, by rw [← hres]; rfl, ?_⟩⟩
    rw [← hres]; exact own_nil _ _ _ _
  have hlt : i < st.length := by have h30 : (i : Int) < (st.length : Int) := h29; omega
  refine Exists.elim (Nat.exists_eq_succ_of_ne_zero (show fu ≠ 0 by omega)) fun fu' hfe => ?_
  subst hfe
  rw [pthL, if_pos hlt] at hres
  have hrg := hok.rg _ (gE_mem hlt)
  have hge := gE_eq hlt
  refine exE (gE st i) fun s0 hs0 => ?_
  rw [hs0] at hres hrg hge
  refine G_skip ?_
  refine G_seq <| G_block <| G_seq <| G_seq <| G_region (by rfl) (by rfl) ?_
  refine x r_move <| x (r_loadB hP.B10 rfl rfl) <| x (r_loadB hP.BI rfl rfl) <| xie (i := i) (own_arr (L := []) hP.R (by omega) (by simp)) rfl rfl hlt fun a35 h35 => ?_
  rw [hge] at h35
  refine x (r_field rfl) <| x (r_loadA (h35.fld 0 (.int .i64 s0.1) rfl) rfl) <| xl rfl <| xc (first := []) (capt := cw) rfl <| (hwt s0.1 _ hrg.1 hrg.2 hP.stp).mono ?_
  rintro r13 w13 ⟨rfl, hs13⟩
  have hz13 := hs13.size
  have hP13 := hP.ext hs13
  have hds13 := hds.ext hs13
  refine xe ?_
  refine G_cond rfl (fun h38 => ?_) (fun h38 => ?_)
  · rw [if_pos h38] at hres
    have hds0 : DsK w.heap.size w12.heap.size ds w13 := hds13
    refine G_seq <| G_region (by rfl) (by rfl) ?_
    refine x r_assign <| xe ?_
    refine G_seq <| G_seq <| G_region (by rfl) (by rfl) ?_
    refine x (r_loadB hP13.BI rfl rfl) <| x r_assign <| xe ?_
    refine G_block <| G_loop (α := Nat × Nat × Value × List Int) [(13, 14), (40, 58)] (fun z => [(13, z.2.2.1), (14, .int .i64 z.2.1)])
      (fun z ds' W => ds' = ds ∧ Step [] w13 W ∧ DsK w.heap.size w12.heap.size ds W ∧ z.2.1 < z.1 ∧ z.2.1 < st.length ∧ IntsO 3 w13.heap.size W z.2.2.1 z.2.2.2 ∧ z.2.2.2.length + z.1 ≤ i + 1 ∧ z.2.2.2 ++ wrd st z.1 z.2.1 = wrd st (i + 1) i)
      (fun z => z.1) (by rfl) (i + 1, i, .slice none 0 0, []) ⟨rfl, rfl, trivial⟩ ⟨rfl, Step.refl _ _, hds0, by simp, hlt, own_nil _ _ _ _, by simp, rfl⟩ ?_
    rintro ⟨f, k, v, acc⟩ g ds' w14 ⟨rfl, hs14, hds14, hkf, hkl, hO14, hal, hwr⟩
    simp only [] at hkf hkl hO14 hal hwr
    refine Exists.elim (Nat.exists_eq_succ_of_ne_zero (show f ≠ 0 by omega)) fun f' hfe => ?_
    subst hfe
    rw [wrd] at hwr
    have hgk := gE_eq hkl
    have hpk := hok.par k hkl
    refine exE (gE st k) fun s1 hs1' => ?_
    rw [hs1'] at hwr hgk hpk
    have hP14 := hP13.ext hs14
    have hz14 := hs14.size
    refine G_seq <| G_seq <| G_region (by rfl) (by rfl) ?_
    refine x (r_loadB hP14.B10 rfl rfl) <| x r_move <| xie (i := k) (own_arr (L := []) hP14.R (by omega) (by simp)) rfl rfl hkl fun a42 h42 => ?_
    rw [hgk] at h42
    refine x (r_field rfl) <| x (r_loadA (h42.fld 1 (.int .i64 s1.2.1) rfl) rfl) <| x (r_geq rfl rfl) <| xe ?_
    refine G_ifn rfl (fun h45 => ?_) (fun h45 => ?_)
    · refine G_exit ?_
      rw [if_neg h45, List.append_nil] at hwr
      refine G_seq <| G_region (by rfl) (by rfl) ?_
      refine x r_move <| xl rfl <| xf <| (Reverse_ok hO14 (by omega)).mono ?_
      rintro r15 w15 ⟨hO15, hs15'⟩
      have hds15 := hds14.step hs15' (own_cells hO14)
      refine xe ?_
      refine G_seq <| G_region (by rfl) (by rfl) ?_
      refine x r_move <| x r_assign <| x r_assign <| xe ?_
      refine G_ret ⟨fun D hD => (hds15.2 D hD).2.2, hds15.1, [v, .bool true], fun w' hw' => ⟨⟨rfl, rfl, trivial⟩, ?_, v, by rw [← hres]; rfl, ?_⟩⟩
      · exact ((hP14.stp).then hs15' (fun b hb => .inr (by have := (own_ge hO14 b hb).1; omega))).then hw' (fun D hD => .inr (hds15.2 D hD).1)
      · rw [← hres, ← hwr]
        exact own_base (own_step hO15 hw' (hds15.own hO15)) (by omega)
    rw [if_pos h45] at hwr
    have h46 : 0 ≤ s1.2.1 := h45
    refine G_skip ?_
    refine G_seq <| G_block <| G_region (by rfl) (by rfl) ?_
    refine x r_move <| x (r_loadB hP14.B10 rfl rfl) <| x r_move <| xie (i := k) (own_arr (L := []) hP14.R (by omega) (by simp)) rfl rfl hkl fun a54 h54 => ?_
    rw [hgk] at h54
    refine x (r_field rfl) <| x (r_loadA (h54.fld 2 (.int .i64 s1.2.2) rfl) rfl) <| xl rfl <| o_lits (us := [[.int .i64 s1.2.2]]) rfl rfl (by decide) (by simp) ⟨rfl, rfl, trivial⟩ fun b57 w16 hs16 hb57 hB57 => xl rfl <| o_app (m := 1) (news := [.int .i64 s1.2.2]) (own_ext hO14 hs16) rfl rfl rfl (hB57.at (L := []) (by simp)) (by simp [Value.oneCell']) (by omega) (by have := hs16.size; omega) fun v17 w17 hO17 hs17 hn17 =>
      x r_assign <| xe ?_
    have hs1417 : Step [] w13 w17 := (hs14.trans hs16).then hs17 (fun b hb => .inr (own_ge hO14 b hb).1)
    have hP17 := hP13.ext hs1417
    have hds17 := (hds14.ext hs16).step hs17 (own_cells (own_ext hO14 hs16))
    refine G_region (by rfl) (by rfl) ?_
    refine x (r_loadB hP17.B10 rfl rfl) <| x r_move <| xie (i := k) (own_arr (L := []) hP17.R (by omega) (by simp)) rfl rfl hkl fun a48 h48 => ?_
    rw [hgk] at h48
    refine x (r_field rfl) <| x (r_loadA (h48.fld 1 (.int .i64 s1.2.1) rfl) rfl) <| x r_assign <| xe ?_
    have hkn : s1.2.1 = (s1.2.1.toNat : Int) := by omega
    refine ⟨(f', s1.2.1.toNat, v17, acc ++ [s1.2.2]), by simp only []; omega, ⟨rfl, congrArg (Value.int .i64) hkn, trivial⟩, rfl, hs1417, hds17, by simp only []; omega, by simp only []; omega, IntsO.snoc hO17, ?_, ?_⟩
    · simp only [List.length_append, List.length_singleton]; omega
    · rw [List.append_assoc]; exact hwr
  rw [if_neg (by rw [h38]; decide)] at hres
  have hsn : s0.1 = (s0.1.toNat : Int) := by omega
  refine G_skip ?_
  have hd0 : Step [] w13 { w13 with drawn := w13.drawn + 1 } := Step.drew _ _
  refine G_seq <| G_draw (Step [] w13) [(0, true), (1, true), (2, true), (3, true), (4, true), (5, true), (6, false)] Tryz.mixed (by rfl) (by rfl) (by kernel_rfl) (Step.drew _ _) ?_
  refine pq (fun _ hc => r_loadsB (hP13.B4.ext hc) rfl rfl) <| pq (fun _ hc => r_loadB (hP13.B10.ext hc) rfl rfl) <| pq (fun _ hc => r_loadB (hP13.BI.ext hc) rfl rfl) <|
    pie (i := i) rfl (own_arr (L := []) hP13.R (by omega) (by simp)) rfl rfl hlt fun a65 h65 => ?_
  rw [hge] at h65
  refine p (fun _ => r_field rfl) <| pq (fun _ hc => r_loadA ((h65.fld 0 (.int .i64 s0.1) rfl).ext hc) rfl) <| pk <| xf <| (edges_ok (va := va) (vm := vm) (ve := ve) (vf := .slice (some ⟨bF, 0, none⟩) (n + 1) (n + 1)) (st := a.st) (s := s0.1)).mono ?_
  rintro r18 w14 ⟨hs14, b1, b2, rfl, hb1, hb2, hB1, hB2⟩
  have hs1314 := hd0.trans hs14
  refine ⟨hs1314, pe ?_⟩
  have hP14 := hP13.ext hs1314
  have hds14 : DsK w.heap.size w12.heap.size ds w14 := hds13.ext hs1314
  have hz14 := hs1314.size
  have hE14 : Eds (bS :: b10 :: ob vs) w14.heap ve a.ed := by
    refine (hA.ed.up (L' := bS :: b10 :: ob vs) (fun b hb => .inr ?_)).step hP14.stp (fun _ hb => by cases hb)
    rcases List.mem_cons.1 hb with rfl | hb
    · omega
    · rcases List.mem_cons.1 hb with rfl | hb
      · omega
      · exact (own_ge hP14.R b hb).1
  rw [hsn] at hB2
  have hzw : w.heap.size ≤ w14.heap.size := hP14.stp.size
  have hdist : bS ≠ b4 ∧ bS ≠ b7 ∧ bS ≠ b10 ∧ bS ≠ b11 ∧ bS ≠ bi ∧ b10 ≠ b4 ∧ b10 ≠ b7 ∧ b10 ≠ b11 ∧ b10 ≠ bi := by omega
  have hq4 := hP14.B4.lt
  have hq7 := hP14.B7.lt
  have hq10 := hP14.B10.lt
  have hq11 := hP14.B11.lt
  have hqS := hP14.BS.lt
  have hqi := hP14.BI.lt
  refine G_block <| G_range (α := { e : Ed // e ∈ a.ed }) (bS :: b10 :: ob vs) (by omega) (capt := [.pointer (some ⟨b1, 0, none⟩), .pointer (some ⟨b2, 0, none⟩)]) rfl (enc := fun x => .agg (edCells x.1).toArray) (by decide)
    (edges1_seq hB1 hB2 (hBF.ext hP14.stp) hE14 hso (by omega) hst1)
    (fun pre W => ∃ v, PI w b4 b7 b10 b11 bS n [va, .int .i64 a.st, vm, ve, .slice (some ⟨bF, 0, none⟩) (n + 1) (n + 1)] (.func (.func gp) #[] cp.toArray) bi i v ((pre.map (·.1)).foldl (addP pm i) st) W ∧ PtOk n ((pre.map (·.1)).foldl (addP pm i) st) ∧ i < ((pre.map (·.1)).foldl (addP pm i) st).length ∧
      (∀ b ∈ ob v, b ∈ ob vs ∨ w14.heap.size ≤ b) ∧ DsK w.heap.size w12.heap.size ds W ∧ w14.heap.size ≤ W.heap.size)
    (fun pre => Stb.ex fun v => (PI.stb hzw).and ((Stb.pure _).and ((Stb.pure _).and ((Stb.pure _).and ((DsK.stb (by omega)).and (fun W W' X h hs _ => Nat.le_trans h hs.size))))))
    ⟨vs, hP14, hok, hlt, fun b hb => .inl hb, hds14, Nat.le_refl _⟩
    (fun f x f' W => ∃ b, f' = upd (upd f 69 (.agg (edCells x.1).toArray)) 15 (.pointer (some ⟨b, 0, none⟩)) ∧ w14.heap.size ≤ b ∧ Blk W.heap b 85 (edCells x.1))
    (fun x f' => Stb.ex fun b => (Stb.pure _).and ((Stb.pure _).and Stb.blk)) ?_ ?_ ?_
  · rintro l pre ⟨e, he⟩ W ⟨v, hPv, hokv, hiv, hobv, hdv, hzv⟩
    refine G_region (by rfl) (by rfl) ?_
    refine xl rfl <| o_alloc (us := [.int .i64 0, .int .i64 0, .int .i64 0]) rfl fun b15 w15 hs15' hb15 hB15 => xl rfl <| o_stores (us := edCells e) hB15 rfl rfl rfl rfl ⟨rfl, rfl, rfl, trivial⟩ fun w16 hs16 hB15' => xe ?_
    have hsW : Step [] W w16 := hs15'.then1 hs16 hb15
    have hzs := hsW.size
    exact ⟨rfl, RSt.ext hsW hzv, ⟨v, hPv.ext hsW, hokv, hiv, hobv, hdv.ext hsW, by omega⟩, b15, rfl, by omega, hB15'⟩
  · rintro l pre ⟨e, he⟩ f' W ⟨v, hPv, hokv, hiv, hobv, hdv, hzv⟩ ⟨b15, rfl, hb15, hB15⟩ _
    have hfo : ((pre ++ [(⟨e, he⟩ : { e : Ed // e ∈ a.ed })]).map (·.1)).foldl (addP pm i) st = addP pm i ((pre.map (·.1)).foldl (addP pm i) st) e := by rw [List.map_append, List.foldl_append]; rfl
    refine exE ((pre.map (·.1)).foldl (addP pm i) st) fun st' hst' => ?_
    rw [hst'] at hPv hokv hiv hfo
    have heb := hed e he
    have hetn : e.2.2 = (e.2.2.toNat : Int) := by omega
    have hadd := addP_ok (pm := pm) hokv hiv heb
    have hfla := flg_at (l := stS st') heb.1 heb.2
    have hsl := hokv.le
    have hzs := hPv.stp.size
    refine G_block <| G_seq <| G_region (by rfl) (by rfl) ?_
    by_cases hin : e.2.2 ∈ stS st'
    · rw [decide_eq_true hin] at hfla
      have hst2 : addP pm i st' e = st' := by unfold addP; rw [if_neg (fun h => h.1 hin)]
      refine x (r_loadB hPv.B11 rfl rfl) <| x (r_fieldB rfl) <| x (r_loadB hB15 rfl rfl) <| x (r_indexB (i := e.2.2.toNat) rfl (congrArg (Value.int .i64) hetn) (by omega)) <| x (r_loadB hPv.BS rfl hfla) <| x (r_not rfl) <| x r_move <|
        xs rfl <| xs rfl <| xs rfl <| x (r_pick rfl) <| xe ?_
      refine G_false rfl <| G_skip ?_
      refine ⟨RSt.refl _ _ _, v, ?_⟩
      rw [hfo, hst2]
      exact ⟨hPv, hokv, hiv, hobv, hdv, hzv⟩
    rw [decide_eq_false hin] at hfla
    refine x (r_loadB hPv.B11 rfl rfl) <| x (r_fieldB rfl) <| x (r_loadB hB15 rfl rfl) <| x (r_indexB (i := e.2.2.toNat) rfl (congrArg (Value.int .i64) hetn) (by omega)) <| x (r_loadB hPv.BS rfl hfla) <| x (r_not rfl) <| x r_move <|
      x (r_loadB hPv.B7 rfl rfl) <| x (r_loadsB hB15 rfl rfl) <| xl rfl <| xc (first := []) (capt := cp) rfl <| (hpm e _ he hPv.stp).mono ?_
    rintro r19 w15 ⟨rfl, hs15'⟩
    refine x (r_pick rfl) <| xe ?_
    have hPv15 := hPv.ext hs15'
    have hz15 := hs15'.size
    refine G_cond rfl (fun hp => ?_) (fun hp => ?_)
    · have hst2 : addP pm i st' e = st' ++ [(e.2.2, (i : Int), e.2.1)] := by unfold addP; rw [if_pos ⟨hin, hp⟩]
      rw [hst2] at hfo hadd
      have hB15b := hB15.ext hs15'
      refine G_seq <| G_region (by rfl) (by rfl) ?_
      refine x (r_loadB hPv15.B11 rfl rfl) <| x (r_fieldB rfl) <| x (r_loadB hB15b rfl rfl) <| x (r_indexB (i := e.2.2.toNat) rfl (congrArg (Value.int .i64) hetn) (by omega)) <| xl rfl <| o_store (j := 0 + e.2.2.toNat * 1) (u := .bool true) hPv15.BS rfl rfl (by rw [List.length_map, flg_len]; omega) rfl fun w16 hs16 hBS16 => xe ?_
      have hBS16' : Blk w16.heap bS 4 ((flg n (stS (st' ++ [(e.2.2, (i : Int), e.2.1)]))).map Value.bool) := by
        have e1 := flg_set (n := n) (l := stS st') heb.1
        have e2 : stS (st' ++ [(e.2.2, (i : Int), e.2.1)]) = stS st' ++ [e.2.2] := by unfold stS; rw [List.map_append]; rfl
        rw [e2, ← e1, List.map_set]
        simpa using hBS16
      have hz16 := hs16.size
      have hB10' := hPv15.B10.step hs16 (by have := hdist.2.2.1; simpa using this.symm)
      have hBI' := hPv15.BI.step hs16 (by have := hdist.2.2.2.2.1; simpa using this.symm)
      have hR16 : EdsO 124 w.heap.size w16 v st' := own_step hPv15.R hs16 (fun b hb => by have := (hPv15.ne b hb).2.2.2.2.1; simpa using this)
      have hB15c := hB15b.step hs16 (by simp; omega)
      refine G_region (by rfl) (by rfl) ?_
      refine x (r_loadB hB10' rfl rfl) <| x (r_fieldB rfl) <| x (r_loadB hB15c rfl rfl) <| x (r_loadB hBI' rfl rfl) <| x (r_fieldB rfl) <| x (r_loadB hB15c rfl rfl) <| x (r_build ⟨rfl, rfl, rfl, trivial⟩) <|
        xl rfl <| o_lits (us := [[.int .i64 e.2.2, .int .i64 i, .int .i64 e.2.1]]) rfl rfl (by decide) (by simp) ⟨rfl, rfl, trivial⟩ fun b92 w17 hs17 hb92 hB92 =>
        xl rfl <| o_app (m := 1) (news := [.int .i64 e.2.2, .int .i64 i, .int .i64 e.2.1]) (own_ext hR16 hs17) rfl rfl rfl (hB92.at (L := []) (by simp)) (by simp [Value.oneCell']) (by omega) (by have := hs17.size; omega) fun v18 w18 hO18 hs18 hn18 => ?_
      have hB10v : b10 ∉ ob v := fun hm => (hPv15.ne b10 hm).2.2.1 rfl
      refine xl rfl <| o_store (u := v18) ((hB10'.ext hs17).step hs18 hB10v) rfl rfl (by simp) (own_arr (L := []) hO18 (by omega) (by simp)).one fun w19 hs19 hB19 => xe ?_
      have hfin := hPv15.add (B := w14.heap.size) (L0 := ob vs) hdist (by omega) (by omega) (by omega) ⟨by omega, by omega, by omega, by omega⟩ hs16 hBS16' hs17 hs18 (EdsO.snoc hO18) hn18 hs19 hB19 hobv
      have hrs : RSt w14.heap.size (bS :: b10 :: ob vs) W w19 := (RSt.ext hs15' hzv).trans hfin.2.1
      have hzf := hrs.lw.size
      refine ⟨hrs, v18, ?_⟩
      rw [hfo]
      exact ⟨hfin.1, hadd.1, hadd.2, hfin.2.2, hdv.rst hrs, by omega⟩
    · have hst2 : addP pm i st' e = st' := by unfold addP; rw [if_neg (fun h => by rw [hp] at h; exact absurd h.2 (by decide))]
      refine G_skip ?_
      refine ⟨RSt.ext hs15' hzv, v, ?_⟩
      rw [hfo, hst2]
      exact ⟨hPv15, hokv, hiv, hobv, hdv.ext hs15', by omega⟩
  · rintro D xs W hD hxs ⟨v, hPv, hokv, hiv, hobv, hdv, hzv⟩ hdD
    rw [hxs, ← hsn] at hPv hokv hiv
    refine exE ((outE a.ed s0.1).foldl (addP pm i) st) fun st' hst' => ?_
    rw [hst'] at hPv hokv hiv hres
    have hsl := hokv.le
    have hdn := hdv.cons (by omega) (by omega) hdD
    have hzW := hPv.stp.size
    refine G_seq <| G_seq <| G_region (by rfl) (by rfl) ?_
    refine x (r_loadB hPv.BI rfl rfl) <| xe ?_
    refine G_region (by rfl) (by rfl) ?_
    refine xl rfl <| o_alloc (us := [.int .i64 0]) rfl fun bj w20 hs20 hbj hBj => xl rfl <| o_store (u := .int .i64 i) hBj rfl rfl (by simp) rfl fun w21 hs21 hBj' => xe ?_
    refine G_region (by rfl) (by rfl) ?_
    refine x (r_loadB hBj' rfl rfl) <| x (r_add rfl rfl ⟨by omega, by omega⟩) <| xl rfl <| o_store (u := .int .i64 ((i : Int) + 1)) hBj' rfl rfl (by simp) rfl fun w22 hs22 hBj2 => xe ?_
    have hs2022 : Step [] W w22 := (hs20.then1 hs21 hbj).then1 hs22 hbj
    have hz22 := hs2022.size
    have hPn := hPv.ext hs2022
    have hdf := (hdn.ext hs2022).up hz22
    have hjn : ∀ b ∈ ob v, b ≠ bj := fun b hb e => by have := own_lt hPv.R b hb; omega
    refine ⟨(i + 1, bj, fu', v, st'), by simp only []; omega, ⟨rfl, trivial⟩, ⟨hPn.stp, hPn.B4, hPn.B7, hPn.B10, hPn.B11, hPn.BS, hBj2, hPn.R, fun b hb => ⟨(hPn.ne b hb).1, (hPn.ne b hb).2.1, (hPn.ne b hb).2.2.1, (hPn.ne b hb).2.2.2.1, (hPn.ne b hb).2.2.2.2.1, hjn b hb⟩⟩, hokv, hdf, by omega, ?_, by simp only []; omega, hiv, by simp only []; omega, hres⟩
    have t4 := hPv.B4.lt
    have t7 := hPv.B7.lt
    have t10 := hPv.B10.lt
    have t11 := hPv.B11.lt
    have tS := hPv.BS.lt
    simp only []; omega
end Go.Proofs.YtfhgnlkdcdlblaaGreatDoor
/- Drawn regions in which several operations that make memory are open: each is described by itself, and what it has made stands. -/
namespace Go.Lg
open Go.RowKit

def sl (d : Option Nat) (f : Fr) : Value := match d with | some d => f d | none => undef
/-- The block of a new value. -/
def ow : Value → List Nat
  | .slice (some a) _ _ => [a.block]
  | .pointer (some a) => [a.block]
  | .map (some b) => [b]
  | _ => []
def Fa (p : Nat → Prop) : List Nat → Prop
  | [] => True
  | i :: l => p i ∧ Fa p l
theorem Fa.all {p : Nat → Prop} : ∀ {l : List Nat}, Fa p l → ∀ i ∈ l, p i
  | [], _, _, hi => by cases hi
  | j :: l, h, i, hi => by
    rcases List.mem_cons.1 hi with rfl | hi
    · exact h.1
    · exact Fa.all h.2 i hi
theorem Fa.of {p : Nat → Prop} : ∀ {l : List Nat}, (∀ i ∈ l, p i) → Fa p l
  | [], _ => trivial
  | i :: _, h => ⟨h i List.mem_cons_self, Fa.of fun j hj => h j (List.mem_cons_of_mem _ hj)⟩
def openGo (all : Array Oper) (opn : List Nat) (rest : List (Nat × Bool)) : Nat → Array Bool → Bool
  | 0, ls => planGo all rest ls && opn.all fun i => ls.getD i false
  | k + 1, ls => !(Region.ready .any all ls).isEmpty && (Region.ready .any all ls).all fun i => opn.contains i && openGo all opn rest k (ls.setIfInBounds i true)
/-- The results of the open operations: slots of D, all apart; no guards. -/
def opnOk (all : List Oper) (D : List (Nat × Nat)) : List Nat → Bool
  | [] => true
  | i :: l => (opAt all i).guard.isNone && (match (opAt all i).dst with | some d => memR D d && l.all (fun j => !((opAt all j).dst == some d)) | none => false) && !l.contains i && opnOk all D l
theorem opnOk_spec {all : List Oper} {D : List (Nat × Nat)} : ∀ {l : List Nat}, opnOk all D l = true → (∀ i ∈ l, (opAt all i).guard = none ∧ ∃ d, (opAt all i).dst = some d ∧ memR D d = true) ∧ ∀ i ∈ l, ∀ j ∈ l, i ≠ j → (opAt all i).dst ≠ (opAt all j).dst
  | [], _ => ⟨fun _ h => (by cases h), fun _ h => (by cases h)⟩
  | i :: l, h => by
    simp only [opnOk, Bool.and_eq_true, Option.isNone_iff_eq_none] at h
    obtain ⟨⟨⟨hg, hd⟩, hc⟩, hl⟩ := h
    have ih := opnOk_spec hl
    cases hdd : (opAt all i).dst with
    | none => rw [hdd] at hd; cases hd
    | some d =>
      rw [hdd] at hd
      simp only [Bool.and_eq_true, List.all_eq_true, Bool.not_eq_true', beq_eq_false_iff_ne, ne_eq] at hd
      have hij : ∀ j ∈ l, (opAt all j).dst ≠ some d := fun j hj => hd.2 j hj
      refine ⟨fun j hj => ?_, fun j hj k hk hjk => ?_⟩
      · rcases List.mem_cons.1 hj with rfl | hj
        · exact ⟨hg, d, hdd, hd.1⟩
        · exact ih.1 j hj
      · rcases List.mem_cons.1 hj with hj1 | hj1
        · rcases List.mem_cons.1 hk with hk1 | hk1
          · exact absurd (hj1.trans hk1.symm) hjk
          · rw [hj1, hdd]; exact fun e => hij k hk1 e.symm
        · rcases List.mem_cons.1 hk with hk1 | hk1
          · rw [hk1, hdd]; exact hij j hj1
          · exact ih.2 j hj1 k hk1 hjk
def drOk (all : List Oper) (pre : List (Nat × Bool)) (opn : List Nat) (rest : List (Nat × Bool)) (D : List (Nat × Nat)) : Bool :=
  Region.noSelect all.toArray && (pre.length + (opn.length + rest.length) == all.length) && quietGo all.toArray pre (Array.replicate all.length false) && opnOk all D opn && openGo all.toArray opn rest opn.length (quietLs pre (Array.replicate all.length false))
    && opn.all fun i => !((quietLs pre (Array.replicate all.length false)).getD i false)
section
variable {P : Program} {n : Nat} {f : Fr} {w : World} {all : List Oper} {C : World → Prop} {K : Fr → World → Prop}
theorem gdF_none {o : Oper} (h : o.guard = none) : gdF all f o = true := by unfold gdF; rw [h]
theorem mix_mix (D : List (Nat × Nat)) (f1 g : Fr) {t : Nat} (h : memR D t = false) : mix D f1 g t = f1 t := by unfold mix; rw [h]; rfl
theorem XA_open {α : Type} {D : List (Nat × Nat)} {opn : List Nat} {rest : List (Nat × Bool)} {Φ : Nat → Value → World → Prop} {S : α → List (Nat × Value)} {I : α → World → Prop} {f1 : Fr} (hs : Region.noSelect all.toArray = true) (hop : opnOk all D opn = true)
    (hCs : ∀ w w', C w → Step [] w w' → C w') (stab : ∀ i v w w', Φ i v w → Step [] w w' → Φ i v w')
    (hconv : ∀ (g : Fr) w, Fa (fun i => Φ i (sl (opAt all i).dst g) w) opn → (∀ i ∈ opn, ∀ j ∈ opn, i ≠ j → ∀ b ∈ ow (sl (opAt all i).dst g), b ∉ ow (sl (opAt all j).dst g)) → ∃ z, Slots g (S z) ∧ I z w)
    (spec : Fa (fun i => ∀ g w, C w → XO P (opAt all i) (mix D f1 g) w (fun f' w' => Step [] w w' ∧ Φ i (sl (opAt all i).dst f') w' ∧ ∀ b ∈ ow (sl (opAt all i).dst f'), w.heap.size ≤ b ∧ b < w'.heap.size)) opn)
    (fin : ∀ z g w, C w → I z w → XP P all C K rest (updS (S z) (mix D f1 g)) w) :
    ∀ (k : Nat) (ls : Array Bool) (f : Fr) (w : World), ls.size = all.length → C w → openGo all.toArray opn rest k ls = true → (∀ t, memR D t = false → f t = f1 t) → (∀ i ∈ opn, ls.getD i false = true → Φ i (sl (opAt all i).dst f) w) →
      (∀ i ∈ opn, ls.getD i false = true → (∀ b ∈ ow (sl (opAt all i).dst f), b < w.heap.size) ∧ ∀ j ∈ opn, ls.getD j false = true → i ≠ j → ∀ b ∈ ow (sl (opAt all i).dst f), b ∉ ow (sl (opAt all j).dst f)) → XA P all C K (k + rest.length) ls f w
  | 0, ls, f, w, hsz, hC, hp, hf, hphi, hdj => by
    simp only [openGo, Bool.and_eq_true, List.all_eq_true] at hp
    obtain ⟨z, h1, h2⟩ := hconv f w (Fa.of fun i hi => hphi i hi (hp.2 i hi)) (fun i hi j hj hij => (hdj i hi (hp.2 i hi)).2 j hj (hp.2 j hj) hij)
    have h3 := fin z f w hC h2
    rw [mix_of hf, updS_self h1] at h3
    rw [Nat.zero_add]
    exact XA_of_plan hs rest ls f w hsz (.inl hC) hp.1 h3
  | k + 1, ls, f, w, hsz, hC, hp, hf, hphi, hdj => by
    simp only [openGo, Bool.and_eq_true, List.all_eq_true, List.contains_iff_mem] at hp
    obtain ⟨hne, hp⟩ := hp
    rw [Nat.add_right_comm]
    refine XA_succ (fun h0 => (by rw [h0] at hne; cases hne)) ?_
    intro i hi o ho
    obtain ⟨hio, hgo⟩ := hp i hi
    obtain ⟨hg, d, hd, hdD⟩ := (opnOk_spec hop).1 i hio
    have hdis := (opnOk_spec hop).2
    have hsp := Fa.all spec i hio f w hC
    rw [mix_of hf] at hsp
    have hoi := opAt_some ho
    rw [hoi] at hg hd hsp
    rw [gdF_none hg, cond_true]
    refine hsp.mono fun v w' hx => ?_
    have hC' := hCs w w' hC hx.1
    have hz := hx.1.size
    have old : ∀ j ∈ opn, j ≠ i → sl (opAt all j).dst (putF f o.dst v) = sl (opAt all j).dst f := fun j hj hij => by
      obtain ⟨_, dj, hdj', _⟩ := (opnOk_spec hop).1 j hj
      have hne : o.dst ≠ some dj := fun e => hdis j hj i hio hij (by rw [hdj', hoi]; exact e.symm)
      rw [hdj']
      exact putF_keep hne v
    have lsj : ∀ j, j ≠ i → (ls.setIfInBounds i true).getD j false = true → ls.getD j false = true := fun j hij h => by rw [getD_set_ne false (Ne.symm hij)] at h; exact h
    refine ⟨.inr (.inr hC'), XA_open hs hop hCs stab hconv spec fin k _ _ _ (by simpa using hsz) hC' hgo (fun t ht => ?_) (fun j hj hlj => ?_) (fun j hj hlj => ⟨fun b hb => ?_, fun k hk hlk hjk b hb hbk => ?_⟩)⟩
    · rw [putF_keep (by rw [hd]; intro e; cases e; rw [hdD] at ht; cases ht)]; exact hf t ht
    · by_cases hij : j = i
      · subst hij
        have h2 := hx.2.1
        rw [hoi]; exact h2
      · rw [old j hj hij]
        exact stab _ _ _ _ (hphi j hj (lsj j hij hlj)) hx.1
    · by_cases hij : j = i
      · subst hij
        rw [hoi] at hb
        exact (hx.2.2 b hb).2
      · rw [old j hj hij] at hb
        have := (hdj j hj (lsj j hij hlj)).1 b hb
        omega
    · by_cases hij : j = i
      · subst hij
        have hki : k ≠ j := Ne.symm hjk
        rw [old k hk hki] at hbk
        rw [hoi] at hb
        have h1 := (hdj k hk (lsj k hki hlk)).1 b hbk
        have h2 := (hx.2.2 b hb).1
        omega
      · rw [old j hj hij] at hb
        have h1 := (hdj j hj (lsj j hij hlj)).1 b hb
        by_cases hki : k = i
        · subst hki
          rw [hoi] at hbk
          have h2 := (hx.2.2 b hbk).1
          omega
        · rw [old k hk hki] at hbk
          exact (hdj j hj (lsj j hij hlj)).2 k hk (lsj k hki hlk) hjk b hb hbk
theorem W_drawO {α : Type} {Q : Exit → Fr → World → Prop} {id : Nat} (C : World → Prop) (pre : List (Nat × Bool)) (opn : List Nat) (rest : List (Nat × Bool)) (D : List (Nat × Nat)) (Φ : Nat → Value → World → Prop) (S : α → List (Nat × Value)) (I : α → World → Prop)
    (hm : P.follows .mixedOrders = true) (hn : dstOk n all = true) (hp : drOk all pre opn rest D = true) (hC : C { w with drawn := w.drawn + 1 }) (hCs : ∀ w w', C w → Step [] w w' → C w') (stab : ∀ i v w w', Φ i v w → Step [] w w' → Φ i v w')
    (hconv : ∀ (g : Fr) w, Fa (fun i => Φ i (sl (opAt all i).dst g) w) opn → (∀ i ∈ opn, ∀ j ∈ opn, i ≠ j → ∀ b ∈ ow (sl (opAt all i).dst g), b ∉ ow (sl (opAt all j).dst g)) → ∃ z, Slots g (S z) ∧ I z w)
    (h : XP P all C (fun f1 _ => Fa (fun i => ∀ g w, C w → XO P (opAt all i) (mix D f1 g) w (fun f' w' => Step [] w w' ∧ Φ i (sl (opAt all i).dst f') w' ∧ ∀ b ∈ ow (sl (opAt all i).dst f'), w.heap.size ≤ b ∧ b < w'.heap.size)) opn ∧
      ∀ z g w, C w → I z w → XP P all C (fun f w => Q .normal f w) rest (updS (S z) (mix D f1 g)) w) pre f { w with drawn := w.drawn + 1 }) : W P n (.region id all.toArray true) Q f w := by
  simp only [drOk, Bool.and_eq_true, beq_iff_eq, List.all_eq_true, Bool.not_eq_true'] at hp
  obtain ⟨⟨⟨⟨⟨hs, hl⟩, hq⟩, hop⟩, hgo⟩, hun⟩ := hp
  refine W_draw_any C hm hn ?_
  rw [← hl]
  have hsz : (Array.replicate all.length false).size = all.length := by simp
  have h1 := XA_of_quiet (K := fun f w => Q .normal f w) (m := opn.length + rest.length) hs pre (Array.replicate all.length false) f _ hC hq (fun f1 hB => XA_open (P := P) (C := C) hs hop hCs stab hconv hB.1 hB.2 opn.length (quietLs pre (Array.replicate all.length false)) f1 _ (by rw [quietLs_size]; exact hsz) hC hgo (fun _ _ => rfl) (fun i hi ht => by rw [hun i hi] at ht; cases ht) (fun i hi ht => by rw [hun i hi] at ht; cases ht)) h
  rw [hl] at h1 ⊢
  exact h1
end
end Go.Lg
/- Contract: reach.Path, where its arguments are right. -/
namespace Go.Proofs.YtfhgnlkdcdlblaaGreatDoor
open Go.Lg

theorem r_indexV {P : Program} {f : Fr} {w : World} {d : Option Nat} {ty : Nat} {ps : String} {af : Array Edge} {gd : Option (Nat × Bool)} {x y : Operand} {t m e : Nat} [h : Ay P t m e 1] [h1 : One P e] {cs : List Value} {k : IntKind} {i : Nat} {u : Value} (hx : ev f x = .agg cs.toArray) (hy : ev f y = .int k i) (hi : i < m) (hu : cs[i]? = some u) :
    (execOp (ev f) ⟨d, .index t x y, ty, ps, af, gd⟩).run P w = .ok (.value u) w := by
  have hz := sizeOf_one (P := P) (w := w) (t := e)
  have hg := isAgg_one (P := P) (w := w) (t := e)
  simp [execOp, hx, hy, Instr.index, asIntOf, run_underlying h.u, hz, part, hg, hu]
  intro h2; omega

theorem Path1_ok {w : World} {b bs n : Nat} {l : List Int} {s : Int} (hB : Blk w.heap b 93 [.slice (some ⟨bs, 0, none⟩) n n]) (hS : Blk w.heap bs 4 ((flg n l).map Value.bool)) (h0 : 0 ≤ s) (h1 : s < (n : Int)) :
    Ret Tryz.prog 42 [.int .i64 s, .pointer (some ⟨b, 0, none⟩)] w fun r w' => r = .bool (decide (s ∈ l)) ∧ Step [] w w' := by
  refine Ret.of_W Tryz.func42 rfl Tryz.ntmps42 Tryz.results42 (by simp) ?_
  have hsn : s = (s.toNat : Int) := by omega
  refine W_seq <| W_region (by rfl) ?_
  refine x r_assign <| xe ?_
  refine W_seq <| W_region (by rfl) ?_
  refine x (r_loadB hB rfl rfl) <| x r_move <| x (r_indexB (i := s.toNat) rfl (congrArg (Value.int .i64) hsn) (by omega)) <| x (r_loadB hS rfl (flg_at h0 h1)) <| x r_assign <| xe ?_
  exact W_ret ⟨[_], ⟨rfl, trivial⟩, rfl, Step.refl _ _⟩
theorem Path2_ok {w : World} {b bs n : Nat} {l : List Int} {e : Ed} (hB : Blk w.heap b 93 [.slice (some ⟨bs, 0, none⟩) n n]) (hS : Blk w.heap bs 4 ((flg n l).map Value.bool)) (h0 : 0 ≤ e.2.2) (h1 : e.2.2 < (n : Int)) :
    Ret Tryz.prog 43 [.agg (edCells e).toArray, .pointer (some ⟨b, 0, none⟩)] w fun r w' => r = .bool (decide (e.2.2 ∈ l)) ∧ Step [] w w' := by
  refine Ret.of_W Tryz.func43 rfl Tryz.ntmps43 Tryz.results43 (by simp) ?_
  have hsn : e.2.2 = (e.2.2.toNat : Int) := by omega
  refine W_seq <| W_region (by rfl) ?_
  refine xl rfl <| o_box (us := edCells e) rfl fun b2 w1 hs1 hb2 hB2 => x r_assign <| xe ?_
  refine W_seq <| W_region (by rfl) ?_
  refine x (r_loadB (hB.ext hs1) rfl rfl) <| x (r_fieldB rfl) <| x (r_loadB hB2 rfl rfl) <| x (r_indexB (i := e.2.2.toNat) rfl (congrArg (Value.int .i64) hsn) (by omega)) <| x (r_loadB (hS.ext hs1) rfl (flg_at h0 h1)) <| x r_assign <| xe ?_
  exact W_ret ⟨[_], ⟨rfl, trivial⟩, rfl, hs1⟩

instance : Ay Tryz.prog 52 2 32 1 := ⟨by kernel_rfl, by kernel_rfl⟩
/-- The least word from a state to a target within a set, and whether there is one. -/
def ptR (a : Aut) (n from0 : Nat) (tg wi : List Int) : List Int × Bool := pth (fun s => decide (s ∈ tg)) (fun e => decide (e.2.2 ∈ wi)) a.ed n from0
def phP (N n : Nat) (tg wi : List Int) (i : Nat) (v : Value) (w : World) : Prop :=
  if i = 2 then ∃ b, v = .slice (some ⟨b, 0, none⟩) n n ∧ N ≤ b ∧ Blk w.heap b 4 ((flg n wi).map Value.bool)
  else if i = 5 then ∃ b, v = .slice (some ⟨b, 0, none⟩) n n ∧ N ≤ b ∧ Blk w.heap b 4 ((flg n tg).map Value.bool)
  else ∃ b, v = .pointer (some ⟨b, 0, none⟩) ∧ N ≤ b ∧ Blk w.heap b 93 [.slice none 0 0]
theorem phP_ext {N n : Nat} {tg wi : List Int} (i : Nat) (v : Value) (w w' : World) (h : phP N n tg wi i v w) (hs : Step [] w w') : phP N n tg wi i v w' := by
  unfold phP at *
  split
  · rename_i e; rw [if_pos e] at h; obtain ⟨b, h1, h2, h3⟩ := h; exact ⟨b, h1, h2, h3.ext hs⟩
  · rename_i e
    rw [if_neg e] at h
    split
    · rename_i e2; rw [if_pos e2] at h; obtain ⟨b, h1, h2, h3⟩ := h; exact ⟨b, h1, h2, h3.ext hs⟩
    · rename_i e2; rw [if_neg e2] at h; obtain ⟨b, h1, h2, h3⟩ := h; exact ⟨b, h1, h2, h3.ext hs⟩
structure PhZ where
  bi : Nat
  bt : Nat
  b15 : Nat
  b16 : Nat
theorem Path_ok {w : World} {va vm ve vt vi : Value} {a : Aut} {n from0 : Nat} {tg wi : List Int} (h : AutA [] w.heap va vm ve a) (hck : ckA a = 0) (hn : a.st = (n : Int)) (hf : from0 < n) (ht : Ints [] w.heap vt tg) (hi : Ints [] w.heap vi wi)
    (htk : ckS a.st none tg = 0) (hik : ckS a.st none wi = 0) (hin : (from0 : Int) ∈ wi) :
    Ret Tryz.prog 13 [.agg #[va, .int .i64 a.st, vm, ve], .int .i64 from0, vt, vi] w fun r w' => Step [] w w' ∧ ∃ v, r = .tuple #[v, .bool (ptR a n from0 tg wi).2, .int .i64 0] ∧ IntsO 3 w.heap.size w' v (ptR a n from0 tg wi).1 := by
  have ho := (ckA_zero a).1 hck
  have hst1 := ho.st1
  refine Ret.of_W Tryz.func13 rfl Tryz.ntmps13 Tryz.results13 (by simp) ?_
  refine W_seq <| W_region (by rfl) ?_
  refine xl rfl <| o_box (us := [va, .int .i64 a.st, vm, ve]) rfl fun b4 w1 hs1 hb4 hB4 => x r_assign <| x r_assign <| x r_assign <| xe ?_
  refine W_seq <| W_seq <| W_region (by rfl) ?_
  refine x (r_loadsB hB4 rfl rfl) <| xl rfl <| xf <| (check_ok (h.ext hs1)).mono ?_
  rintro r2 w2 ⟨rfl, hs2⟩
  refine x r_assign <| xe ?_
  refine W_seq <| W_region (by rfl) ?_
  refine x r_move <| x (r_neq rfl rfl) <| xe ?_
  refine W_if rfl (fun h20 => absurd hck h20) (fun h20 => ?_)
  refine W_skip ?_
  have hs12 := hs1.trans hs2
  have hB42 := hB4.ext hs2
  have hfst : ¬ (from0 : Int) ≥ a.st := by omega
  refine W_seq <| W_seq <| W_region (by rfl) ?_
  refine x r_move <| xb (r_lss rfl rfl) (fun h23 => absurd h23 (by omega)) (fun h23 => ?_)
  refine x r_move <| x r_move <| x (r_fieldB rfl) <| x (r_loadB hB42 rfl rfl) <| x (r_geq rfl rfl) <| x (r_pick rfl) <| xe ?_
  refine W_if rfl (fun h29 => absurd h29 hfst) (fun h29 => ?_)
  refine W_skip ?_
  refine W_seq <| W_seq <| W_region (by rfl) ?_
  refine x r_move <| x r_move <| x (r_build ⟨ht.cells, hi.cells, trivial⟩) <| x r_move <| xe ?_
  refine W_block <| W_loop (α := Nat) [(8, 10), (13, 14), (33, 42)] (fun z => [(33, .int .i64 z)]) (fun z w' => z ≤ 2 ∧ Step [] w2 w') (fun z => 2 - z) (by rfl) 0 ⟨rfl, trivial⟩ ⟨by omega, Step.refl _ _⟩ ?_
  rintro k g w4 ⟨hk, hs4⟩
  refine W_seq <| W_region (by rfl) ?_
  refine x (r_lss rfl rfl) <| xe ?_
  refine W_seq <| W_ifn rfl (fun h34 => ?_) (fun h34 => ?_)
  · refine W_exit ?_
    have hs04 := hs12.trans hs4
    have hA4 := h.ext hs04
    have hz04 := hs04.size
    have hB44 := hB42.ext hs4
    have htm := ((ckS_zero a.st tg none).1 htk).1
    have him := ((ckS_zero a.st wi none).1 hik).1
    refine W_seq <| W_drawO (α := PhZ) (Step [] w4) [(0, true), (1, true), (3, true), (4, true)] [2, 5, 6, 7] [(8, false), (9, false)] [(15, 16), (45, 45), (48, 48)] (phP w4.heap.size n tg wi)
      (fun z => [(45, .slice (some ⟨z.bi, 0, none⟩) n n), (48, .slice (some ⟨z.bt, 0, none⟩) n n), (15, .pointer (some ⟨z.b15, 0, none⟩)), (16, .pointer (some ⟨z.b16, 0, none⟩))])
      (fun z w' => Blk w'.heap z.bi 4 ((flg n wi).map Value.bool) ∧ Blk w'.heap z.bt 4 ((flg n tg).map Value.bool) ∧ Blk w'.heap z.b15 93 [.slice none 0 0] ∧ Blk w'.heap z.b16 93 [.slice none 0 0] ∧ (z.b15 ≠ z.b16 ∧ z.bi ≠ z.b15 ∧ z.bi ≠ z.b16 ∧ z.bt ≠ z.b15 ∧ z.bt ≠ z.b16) ∧ w4.heap.size ≤ z.b15 ∧ w4.heap.size ≤ z.b16)
      Tryz.mixed (by rfl) (by kernel_rfl) (Step.drew _ _) (fun _ _ h1 h2 => h1.trans h2) phP_ext ?_ ?_
    · rintro g w' ⟨⟨bi, e1, _, hbi⟩, ⟨bt, e2, _, hbt⟩, ⟨b15, e3, h15, hb15⟩, ⟨b16, e4, h16, hb16⟩, _⟩ hdj
      refine ⟨⟨bi, bt, b15, b16⟩, ⟨e1, e2, e3, e4, trivial⟩, hbi, hbt, hb15, hb16, ?_, h15, h16⟩
      have d1 := hdj 6 (by simp) 7 (by simp) (by decide)
      have d2 := hdj 2 (by simp) 6 (by simp) (by decide)
      have d3 := hdj 2 (by simp) 7 (by simp) (by decide)
      have d4 := hdj 5 (by simp) 6 (by simp) (by decide)
      have d5 := hdj 5 (by simp) 7 (by simp) (by decide)
      rw [e3, e4] at d1
      rw [e1, e3] at d2
      rw [e1, e4] at d3
      rw [e2, e3] at d4
      rw [e2, e4] at d5
      simp only [ow, List.mem_singleton, forall_eq] at d1 d2 d3 d4 d5
      exact ⟨d1, d2, d3, d4, d5⟩
    · refine pq (fun _ hc => r_loadsB (hB44.ext hc) rfl rfl) <| p (fun _ => r_move) <| pq (fun _ hc => r_loadsB (hB44.ext hc) rfl rfl) <| p (fun _ => r_move) <| pe ⟨⟨?_, ?_, ?_, ?_, trivial⟩, ?_⟩
      · intro g w' hc
        refine xf <| (flags_ok ((hi.ext hs04).ext hc) hn hst1 him).mono ?_
        rintro r5 w5 ⟨hs5, b, rfl, hb, hB⟩
        exact ⟨hs5, ⟨b, rfl, Nat.le_trans hc.size hb, hB⟩, fun c hc' => by rw [List.mem_singleton.1 (show c ∈ [b] from hc')]; exact ⟨hb, hB.lt⟩⟩
      · intro g w' hc
        refine xf <| (flags_ok ((ht.ext hs04).ext hc) hn hst1 htm).mono ?_
        rintro r5 w5 ⟨hs5, b, rfl, hb, hB⟩
        exact ⟨hs5, ⟨b, rfl, Nat.le_trans hc.size hb, hB⟩, fun c hc' => by rw [List.mem_singleton.1 (show c ∈ [b] from hc')]; exact ⟨hb, hB.lt⟩⟩
      · intro g w' hc
        exact o_alloc (us := [.slice none 0 0]) rfl fun b w5 hs5 hb hB => ⟨hs5, ⟨b, rfl, Nat.le_trans hc.size hb, hB⟩, fun c hc' => by rw [List.mem_singleton.1 (show c ∈ [b] from hc')]; exact ⟨hb, hB.lt⟩⟩
      · intro g w' hc
        exact o_alloc (us := [.slice none 0 0]) rfl fun b w5 hs5 hb hB => ⟨hs5, ⟨b, rfl, Nat.le_trans hc.size hb, hB⟩, fun c hc' => by rw [List.mem_singleton.1 (show c ∈ [b] from hc')]; exact ⟨hb, hB.lt⟩⟩
      rintro ⟨bi, bt, b15, b16⟩ g w5 hc5 ⟨hbi, hbt, hb15, hb16, hne, h15, h16⟩
      simp only [] at hbi hbt hb15 hb16 hne h15 h16
      refine pk <| o_store (u := .slice (some ⟨bi, 0, none⟩) n n) hb15 rfl rfl (by simp) rfl fun w6 hs6 hb15' => ⟨hc5.then1 hs6 h15, ?_⟩
      refine pk <| o_store (u := .slice (some ⟨bt, 0, none⟩) n n) (hb16.step hs6 (by simp; omega)) rfl rfl (by simp) rfl fun w7 hs7 hb16' => ⟨(hc5.then1 hs6 h15).then1 hs7 h16, pe ?_⟩
      have hs47 : Step [] w4 w7 := (hc5.then1 hs6 h15).then1 hs7 h16
      have hb15'' := hb15'.step hs7 (by simp; omega)
      have hbi7 := (hbi.step hs6 (by simp; omega)).step hs7 (by simp; omega)
      have hbt7 := (hbt.step hs6 (by simp; omega)).step hs7 (by simp; omega)
      have hz47 := hs47.size
      have hfl : ((flg n wi).map Value.bool)[0 + from0 * 1]? = some (.bool true) := by
        have e1 := flg_at (n := n) (l := wi) (x := (from0 : Int)) (by omega) (by omega)
        rw [decide_eq_true hin] at e1; exact e1
      refine W_seq <| W_seq <| W_region (by rfl) ?_
      refine x (r_loadB hb15'' rfl rfl) <| x r_move <| x (r_indexB (i := from0) rfl rfl hf) <| x (r_loadB hbi7 rfl hfl) <| x (r_not rfl) <| xe ?_
      refine W_false rfl <| W_skip ?_
      refine W_seq <| W_region (by rfl) ?_
      refine x (r_loadsB (hB44.ext hs47) rfl rfl) <| xl rfl <| xf <| (newGraph_ok (hA4.ext hs47) hn hst1 (fun e he => ⟨(ho.ed e he).1, (ho.ed e he).2.1⟩)).mono ?_
      rintro r8 w8 ⟨hs8, bF, rfl, hbF, hBF⟩
      have hs48 := hs47.trans hs8
      have hz8 := hs8.size
      refine x r_move <| x (r_makeFunc (l := []) (l' := [_])) <| x (r_makeFunc (l := []) (l' := [_])) <| xl rfl <| xf <|
        (path_ok (wt := fun s => decide (s ∈ tg)) (pm := fun e => decide (e.2.2 ∈ wi)) (cw := [.pointer (some ⟨b16, 0, none⟩)]) (cp := [.pointer (some ⟨b15, 0, none⟩)]) (gw := 42) (gp := 43) (hA4.ext hs48) hn (by omega) (fun e he => by have := (ho.ed e he).2.2.2; omega) ho.eds hBF hf
          (fun s w' h0 h1 hs' => Path1_ok ((hb16'.ext hs8).ext hs') ((hbt7.ext hs8).ext hs') h0 h1) (fun e w' he hs' => Path2_ok ((hb15''.ext hs8).ext hs') ((hbi7.ext hs8).ext hs') (by have := (ho.ed e he).2.2.2; omega) (by have := (ho.ed e he).2.2.2; omega))).mono ?_
      rintro r9 w9 ⟨hs9, v, rfl, hv⟩
      refine x r_move <| x (r_extract rfl rfl) <| x (r_extract rfl rfl) <| x r_assign <| x r_assign <| xe ?_
      refine W_seq <| W_region (by rfl) ?_
      refine x r_move <| x r_move <| x r_assign <| x r_assign <| x r_assign <| xe ?_
      exact W_ret ⟨[_, _, _], ⟨rfl, rfl, rfl, trivial⟩, hs04.trans (hs48.trans hs9), v, rfl, own_base hv (by omega)⟩
  refine W_skip ?_
  have hk2 : k < 2 := by have h35 : (k : Int) < 2 := h34; omega
  have hex : ∃ u l, [vt, vi][k]? = some u ∧ Ints [] w.heap u l ∧ ckS a.st none l = 0 := by
    rcases k with _ | k
    · exact ⟨vt, tg, rfl, ht, htk⟩
    · have : k = 0 := by omega
      subst this; exact ⟨vi, wi, rfl, hi, hik⟩
  refine Exists.elim hex fun u hu => Exists.elim hu fun l hl => ?_
  refine W_seq <| W_block <| W_seq <| W_region (by rfl) ?_
  refine x (r_indexV (i := k) (cs := [vt, vi]) rfl rfl hk2 hl.1) <| x r_assign <| xe ?_
  refine W_seq <| W_region (by rfl) ?_
  refine x (r_loadsB (hB42.ext hs4) rfl rfl) <| x r_move <| xl rfl <| xf <| (checkStates_ok (va := va) (vm := vm) (ve := ve) (a := a) ((hl.2.1.ext hs12).ext hs4)).mono ?_
  rintro r5 w5 ⟨rfl, hs5⟩
  refine x r_assign <| xe ?_
  refine W_seq <| W_region (by rfl) ?_
  refine x r_move <| x (r_neq rfl rfl) <| xe ?_
  refine W_if rfl (fun h40 => absurd hl.2.2 h40) (fun h40 => ?_)
  refine W_skip ?_
  refine W_region (by rfl) ?_
  refine x (r_add rfl rfl ⟨by omega, by omega⟩) <| x r_move <| xe ?_
  exact ⟨k + 1, by omega, ⟨rfl, trivial⟩, by omega, hs4.trans hs5⟩
end Go.Proofs.YtfhgnlkdcdlblaaGreatDoor
/- Contracts: controllable.open (of a right problem), refused. -/
namespace Go.Proofs.YtfhgnlkdcdlblaaGreatDoor
open Go.Lg

theorem opE_parts {p s : Aut} (h : opE p s = 0) : ckA p = 0 ∧ ckA s = 0 ∧ mrg (fun p q => p && !q) s.al p.al = [] ∧ opC p s = 0 := by
  have hc : opC p s = 0 := by
    unfold opE at h
    split at h
    · rename_i h1; exact absurd h h1
    · rename_i h1; exact Decidable.not_not.1 h1
  obtain ⟨h1, h2⟩ := opC_zero hc
  have c1 := (ckA_zero p).2 h1
  have c2 := (ckA_zero s).2 h2
  refine ⟨c1, c2, ?_, hc⟩
  unfold opC at hc
  rw [if_neg (by simp [c1]), if_neg (by simp [c2])] at hc
  split at hc
  · assumption
  · cases hc
abbrev unL (aP : Aut) (ul : List Int) : List Int := mrg (fun p q => p && q) ul aP.al
structure CPr (H : Array Obj) (b : Nat) (aP aS : Aut) (ul : List Int) (m1 m2 : Nat) (sal vu qa qm qe vt : Value) (qs : List TV) : Prop where
  B : Blk H b 81 [.map (some m1), .map (some m2), sal, vu, qa, .int .i64 (opA aP aS).st, qm, qe, vt]
  M1 : MapB kPair H m1 (edMap [] aP.ed)
  M2 : MapB kPair H m2 (edMap [] aS.ed)
  al : Ints [] H sal aS.al
  un : Ints [] H vu (unL aP ul)
  A : AutA [] H qa qm qe (opA aP aS)
  T : Tups [] H vt qs
  q : qs.map (·.2) = opQ aP aS
theorem CPr.ext {w w' : World} {b : Nat} {aP aS : Aut} {ul : List Int} {m1 m2 : Nat} {sal vu qa qm qe vt : Value} {qs : List TV} (h : CPr w.heap b aP aS ul m1 m2 sal vu qa qm qe vt qs) (hs : Step [] w w') : CPr w'.heap b aP aS ul m1 m2 sal vu qa qm qe vt qs :=
  ⟨h.B.ext hs, h.M1.ext hs, h.M2.ext hs, h.al.ext hs, h.un.ext hs, h.A.ext hs, h.T.ext hs, h.q⟩
def CPx (H : Array Obj) (b : Nat) (aP aS : Aut) (ul : List Int) : Prop := ∃ m1 m2 sal vu qa qm qe vt qs, CPr H b aP aS ul m1 m2 sal vu qa qm qe vt qs
instance : Bw Tryz.prog 81 [.map none, .map none, .slice none 0 0, .slice none 0 0, .slice none 0 0, .int .i64 0, .slice none 0 0, .slice none 0 0, .slice none 0 0] [(0, 1), (1, 1), (2, 1), (3, 1), (4, 4), (8, 1)] := ⟨by kernel_rfl, by decide⟩

theorem copen_ok {w : World} {pva pvm pve sa sm se vl : Value} {aP aS : Aut} {ul : List Int} (hp : AutA [] w.heap pva pvm pve aP) (hs : AutA [] w.heap sa sm se aS) (hu : Ints [] w.heap vl ul) (hE : opE aP aS = 0) (hck : ckS 32 none ul = 0) (hst : aP.st ≤ 100 ∧ aS.st ≤ 100) :
    Ret Tryz.prog 31 [.agg #[pva, .int .i64 aP.st, pvm, pve], .agg #[sa, .int .i64 aS.st, sm, se], vl] w fun r w' => Step [] w w' ∧ ∃ b, r = .tuple #[.pointer (some ⟨b, 0, none⟩), .int .i64 0] ∧ w.heap.size ≤ b ∧ CPx w'.heap b aP aS ul := by
  obtain ⟨c1, c2, hsub, hopC⟩ := opE_parts hE
  have o1 := (ckA_zero aP).1 c1
  have o2 := (ckA_zero aS).1 c2
  have hal1 := o1.al_le
  have hal2 := o2.al_le
  have hul : ul.length ≤ 32 := by
    have h1 := (ckS_zero 32 ul none).1 hck
    have := inc_length ul 0 32 h1.2.1 h1.1
    omega
  refine Ret.of_W Tryz.func31 rfl Tryz.ntmps31 Tryz.results31 (by simp) ?_
  refine W_seq <| W_region (by rfl) ?_
  refine xl rfl <| o_box (us := [pva, .int .i64 aP.st, pvm, pve]) rfl fun b3 w1 hs1 hb3 hB3 => xl rfl <| o_box (us := [sa, .int .i64 aS.st, sm, se]) rfl fun b4 w2 hs2 hb4 hB4 => x r_assign <| x r_assign <| xe ?_
  obtain ⟨ps, hps⟩ := exD ([⟨pva, pvm, pve, aP⟩, ⟨sa, sm, se, aS⟩] : List AV)
  have hs12 := hs1.trans hs2
  have hB32 := hB3.ext hs2
  refine W_seq <| W_seq <| W_region (by rfl) ?_
  refine x (r_loadsB hB32 rfl rfl) <| x (r_loadsB hB4 rfl rfl) <| xl rfl <| o_lits (us := [avCells ⟨pva, pvm, pve, aP⟩, avCells ⟨sa, sm, se, aS⟩]) rfl rfl (by decide) (by exact (by decide : 2 * 4 ≤ 1000000)) ⟨rfl, rfl, rfl, rfl, trivial⟩ fun b17 w4 hs4 hb17 hB17 => ?_
  have hA4 : Arr [] w4.heap (.slice (some ⟨b17, 0, none⟩) 2 2) 2 4 (ps.flatMap avCells) := by rw [← hps]; exact hB17.arr (by simp) rfl (by omega) (by omega)
  have hpl : ps.length = 2 := by rw [← hps]; rfl
  have hA4' : Arr [] w4.heap (.slice (some ⟨b17, 0, none⟩) 2 2) ps.length 4 (ps.flatMap avCells) := by rw [hpl]; exact hA4
  have hW4 := hs12.trans hs4
  have hAA : ∀ p ∈ ps, AutA [] w.heap p.va p.vm p.ve p.a ∧ ckA p.a = 0 := by
    rw [← hps]; intro p hp'; simp at hp'
    rcases hp' with rfl | rfl
    · exact ⟨hp, c1⟩
    · exact ⟨hs, c2⟩
  refine x (r_lenA hA4 rfl) <| x r_move <| xe ?_
  refine W_block <| W_loop (α := Nat) [(6, 7), (9, 10), (19, 28)] (fun z => [(19, .int .i64 z)]) (fun z w' => z ≤ 2 ∧ Step [] w4 w') (fun z => 2 - z) (by rfl) 0 ⟨rfl, trivial⟩ ⟨Nat.zero_le _, Step.refl _ _⟩ ?_
  rintro k g w5 ⟨hk, hs5⟩
  have hW5 := hW4.trans hs5
  have hB35 := (hB32.ext hs4).ext hs5
  have hB45 := (hB4.ext hs4).ext hs5
  refine W_seq <| W_region (by rfl) ?_
  refine x (r_lss rfl rfl) <| xe ?_
  refine W_seq <| W_ifn rfl (fun h20 => ?_) (fun h20 => ?_)
  · refine W_exit ?_
    refine W_seq <| W_seq <| W_region (by rfl) ?_
    refine x r_move <| xl rfl <| xf <| (CheckSet_ok (hu.ext hW5) 32).mono ?_
    rintro r6 w6 ⟨rfl, rfl⟩
    refine x r_assign <| xe ?_
    refine W_seq <| W_region (by rfl) ?_
    refine x r_move <| x (r_neq rfl rfl) <| xe ?_
    refine W_if rfl (fun h32 => absurd hck h32) (fun h32 => ?_)
    refine W_skip ?_
    refine W_seq <| W_seq <| W_region (by rfl) ?_
    refine x (r_fieldB rfl) <| x (r_loadB hB45 rfl rfl) <| x (r_fieldB rfl) <| x (r_loadB hB35 rfl rfl) <| xl rfl <| xf <| (Subset_ok (hs.al.ext hW5) (hp.al.ext hW5) (by omega)).mono ?_
    rintro r7 w7 ⟨hs7, rfl⟩
    refine x (r_not rfl) <| xe ?_
    refine W_cond rfl (fun h39 => by simp [hsub] at h39) (fun h39 => ?_)
    refine W_skip ?_
    have hB37 := hB35.ext hs7
    have hB47 := hB45.ext hs7
    refine W_seq <| W_region (by rfl) ?_
    refine x (r_loadsB hB37 rfl rfl) <| x (r_loadsB hB47 rfl rfl) <| xl rfl <| o_lits (us := [avCells ⟨pva, pvm, pve, aP⟩, avCells ⟨sa, sm, se, aS⟩]) rfl rfl (by decide) (by exact (by decide : 2 * 4 ≤ 1000000)) ⟨rfl, rfl, rfl, rfl, trivial⟩ fun b43 w8 hs8 hb43 hB43 => ?_
    have hW8 := (hW5.trans hs7).trans hs8
    have hAu : Auts [] w8.heap (.slice (some ⟨b43, 0, none⟩) 2 2) [⟨pva, pvm, pve, aP⟩, ⟨sa, sm, se, aS⟩] := by
      refine ⟨hB43.arr (by simp) rfl (by simp) (by simp), fun q hq => ?_⟩
      simp at hq
      rcases hq with rfl | rfl
      · exact hp.ext hW8
      · exact hs.ext hW8
    refine xl rfl <| xf <| (Synchronous_ok hAu (by intro q hq; simp at hq; rcases hq with rfl | rfl; exact hst.1; exact hst.2)).mono ?_
    rintro r9 w9 ⟨hs9, va, vt, c, rfl, hR⟩
    obtain ⟨hc, hO⟩ := OpRes.of hopC hR
    rw [hE] at hc
    subst hc
    obtain ⟨qa, qm, qe, hva, hAF⟩ := (hO.good hE).1
    obtain ⟨qs, hqs, hTF⟩ := (hO.good hE).2
    subst hva
    have hPA := hAF [] (by simp)
    have hPT := hTF [] (by simp)
    refine x r_move <| x (r_extract rfl rfl) <| x (r_extract rfl rfl) <| x (r_extract rfl rfl) <| xl rfl <| o_alloc (us := [.slice none 0 0, .int .i64 0, .slice none 0 0, .slice none 0 0]) rfl fun b12 w10 hs10 hb12 hB12 => xl rfl <| o_stores (us := [qa, .int .i64 (opA aP aS).st, qm, qe]) hB12 rfl rfl rfl rfl ⟨hPA.al.one, rfl, hPA.mr.one, hPA.ed.one, trivial⟩ fun w11 hs11 hB12' => x r_assign <| x r_assign <| xe ?_
    have hs911 : Step [] w9 w11 := hs10.then1 hs11 hb12
    have hs711 := (hs8.trans hs9).trans hs911
    have hW11 := (hW8.trans hs9).trans hs911
    refine W_seq <| W_seq <| W_region (by rfl) ?_
    refine x r_move <| x (r_neq rfl rfl) <| xe ?_
    refine W_if rfl (fun h49 => absurd rfl h49) (fun h49 => ?_)
    refine W_skip ?_
    have hB3b := hB37.ext hs711
    have hB4b := hB47.ext hs711
    have hd0 : Step [] w11 { w11 with drawn := w11.drawn + 1 } := Step.drew _ _
    have hPA11 := hPA.ext hs911
    have hPT11 := hPT.ext hs911
    refine W_seq <| W_draw (Step [] w11) [(0, true), (2, true), (4, true), (5, true), (6, true), (7, true), (8, true), (10, true), (11, true), (1, false), (3, false), (9, false), (12, true), (13, false), (14, true), (15, true)] Tryz.mixed (by rfl) (by kernel_rfl) (Step.drew _ _) ?_
    refine pq (fun _ hc => r_loadsB (hB3b.ext hc) rfl rfl) <| pq (fun _ hc => r_loadsB (hB4b.ext hc) rfl rfl) <| p (fun _ => r_fieldB rfl) <| pq (fun _ hc => r_loadB (hB4b.ext hc) rfl rfl) <| p (fun _ => r_move) <| p (fun _ => r_fieldB rfl) <| pq (fun _ hc => r_loadB (hB3b.ext hc) rfl rfl) <|
      pq (fun _ hc => r_loadsB (hB12'.ext hc) rfl rfl) <| p (fun _ => r_move) <| pk <| xf <| (csteps_ok ((hp.ed.ext hW11).ext hd0)).mono ?_
    rintro r12 w12 ⟨hs12', m1, rfl, hm1, hM1⟩
    have hc12 := hd0.trans hs12'
    refine ⟨hc12, ?_⟩
    refine pk <| xf <| (csteps_ok ((hs.ed.ext hW11).ext hc12)).mono ?_
    rintro r13 w13 ⟨hs13, m2, rfl, hm2, hM2⟩
    have hc13 := hc12.trans hs13
    refine ⟨hc13, ?_⟩
    refine pk <| xf <| (Intersect_ok ((hu.ext hW11).ext hc13) ((hp.al.ext hW11).ext hc13) (by omega)).mono ?_
    rintro vu w14 ⟨hs14, hU⟩
    have hc14 := hc13.trans hs14
    refine ⟨hc14, ?_⟩
    have hull : (unL aP ul).length ≤ ul.length + aP.al.length := mrg_len (fun p q => p && q) ul aP.al
    have hUA : Ints [] w14.heap vu (unL aP ul) := own_arr hU (by omega) (by simp)
    refine p (fun _ => r_buildW [(0, [.map (some m1)]), (1, [.map (some m2)]), (2, [sa]), (3, [vu]), (4, [qa, .int .i64 (opA aP aS).st, qm, qe]), (5, [vt])] ⟨rfl, rfl, rfl, rfl, hs.al.cells, rfl, hUA.cells, rfl, rfl, rfl, hPT.arr.cells, rfl, trivial⟩) <|
      pk <| o_box (us := [.map (some m1), .map (some m2), sa, vu, qa, .int .i64 (opA aP aS).st, qm, qe, vt]) rfl fun b64 w15 hs15 hb64 hB64 => ⟨hc14.trans hs15, ?_⟩
    refine p (fun _ => r_assign) <| p (fun _ => r_assign) <| pe ?_
    have hz11 := hW11.size
    have hz14 := hc14.size
    refine W_ret ⟨[_, _], ⟨rfl, rfl, trivial⟩, hW11.trans (hc14.trans hs15), b64, rfl, by omega, m1, m2, sa, vu, qa, qm, qe, vt, qs, hB64, ((hM1.ext hs13).ext hs14).ext hs15, (hM2.ext hs14).ext hs15, hs.al.ext (hW11.trans (hc14.trans hs15)), hUA.ext hs15, hPA11.ext (hc14.trans hs15), hPT11.ext (hc14.trans hs15), hqs⟩
  have hlt : k < ps.length := by have h21 : (k : Int) < 2 := h20; omega
  have hA := hAA _ (List.getElem_mem hlt)
  obtain ⟨q, hq⟩ := exD (ps[k]'hlt)
  rw [hq] at hA
  have hA4s := hA4'.ext hs5
  refine W_skip ?_
  refine W_seq <| W_block <| W_seq <| W_region (by rfl) ?_
  refine xig av_len hA4s rfl rfl hlt fun a16 h16 => ?_
  rw [hq] at h16
  refine x (r_loadsA h16 rfl rfl) <| xl rfl <| o_alloc (us := [.slice none 0 0, .int .i64 0, .slice none 0 0, .slice none 0 0]) rfl fun b8 w11 hs11 hb8 hB8 => xl rfl <| o_stores (us := avCells q) hB8 rfl rfl rfl rfl ⟨hA.1.al.one, rfl, hA.1.mr.one, hA.1.ed.one, trivial⟩ fun w12 hs12 hB8' =>
    xe ?_
  have hs512 : Step [] w5 w12 := hs11.then1 hs12 hb8
  refine W_seq <| W_region (by rfl) ?_
  refine x (r_loadsB hB8' rfl rfl) <| xl rfl <| xf <| (check_ok ((hA.1.ext hW5).ext hs512)).mono ?_
  rintro r13 w13 ⟨rfl, hs13'⟩
  refine x r_assign <| xe ?_
  refine W_seq <| W_region (by rfl) ?_
  refine x r_move <| x (r_neq rfl rfl) <| xe ?_
  refine W_if rfl (fun h26 => absurd hA.2 h26) (fun h26 => ?_)
  refine W_skip ?_
  refine W_region (by rfl) ?_
  refine x (r_add rfl rfl ⟨by omega, by omega⟩) <| x r_move <| xe ?_
  exact ⟨k + 1, by omega, ⟨rfl, trivial⟩, by omega, (hs5.trans hs512).trans hs13'⟩
end Go.Proofs.YtfhgnlkdcdlblaaGreatDoor
/- Contracts: controllable.refused, Check$1. -/
namespace Go.Proofs.YtfhgnlkdcdlblaaGreatDoor
open Go.Lg

theorem r_lookE {P : Program} {f : Fr} {w : World} {d : Option Nat} {ty : Nat} {ps : String} {af : Array Edge} {gd : Option (Nat × Bool)} {t kt et : Nat} [hm : Mp P t kt et (.int .i64 0)] [hk : Key P kt kPair] {x y : Operand} {b : Nat} {s : Aut} {q v : Int} (h : MapB kPair w.heap b (edMap [] s.ed))
    (hs : s.ed.Pairwise fun x y => x.1 < y.1 ∨ (x.1 = y.1 ∧ x.2.1 < y.2.1)) (hx : ev f x = .map (some b)) (hy : ev f y = kPair (q, v)) :
    (execOp (ev f) ⟨d, .lookup t x y true, ty, ps, af, gd⟩).run P w = .ok (.value (.tuple #[.int .i64 ((eget s.ed q v).getD 0), .bool (decide ((eget s.ed q v).isSome = true))])) w := by
  rw [r_lookup h hx hy, edMap_get s.ed [] q v hs]
  cases eget s.ed q v <;> rfl
/-- The requirement refuses event u in the pair. -/
def rfu (aP aS : Aut) (t : List Int) (u : Int) : Bool := (eget aP.ed (t.getD 0 0) u).isSome && (!(eget aS.ed (t.getD 1 0) u).isSome && decide (u ∈ aS.al))
def rfs (aP aS : Aut) (us : List Int) (t : List Int) : Int := (us.find? (rfu aP aS t)).getD (-1)
theorem rfs_cons (aP aS : Aut) (u : Int) (us t : List Int) : rfs aP aS (u :: us) t = if rfu aP aS t u = true then u else rfs aP aS us t := by
  unfold rfs; rw [List.find?_cons]; cases rfu aP aS t u <;> rfl
theorem tv_at {qs : List TV} {k : Nat} (hk : k < qs.length) {l : List (List Int)} (h : qs.map (·.2) = l) : (qs[k]'hk).2 = l.getD k [] := by
  rw [← h]; simp [List.getD, hk]
theorem refused_ok {w : World} {b : Nat} {aP aS : Aut} {ul : List Int} {m1 m2 : Nat} {sal vu qa qm qe vt : Value} {qs : List TV} (h : CPr w.heap b aP aS ul m1 m2 sal vu qa qm qe vt qs) (o1 : Okay aP) (o2 : Okay aS) {k : Nat} (hk : k < qs.length) (hv : Vt [aP, aS] (qs[k]'hk).2) :
    Ret Tryz.prog 32 [.pointer (some ⟨b, 0, none⟩), .int .i64 k] w fun r w' => r = .int .i64 (rfs aP aS (unL aP ul) (qs[k]'hk).2) ∧ Step [] w w' := by
  have hul := h.un.le
  have hql := h.T.arr.le
  have hin := h.T.each _ (List.getElem_mem hk)
  have hlen : (qs[k]'hk).2.length = 2 := hv.1
  obtain ⟨q, hq⟩ := exD (qs[k]'hk)
  rw [hq] at hin hlen ⊢
  refine Ret.of_W Tryz.func32 rfl Tryz.ntmps32 Tryz.results32 (by simp) ?_
  refine W_seq <| W_region (by rfl) ?_
  refine x r_assign <| xe ?_
  refine W_seq <| W_seq <| W_region (by rfl) ?_
  refine x r_move <| x (r_nilCheck rfl) <| x (r_fieldB rfl) <| x (r_loadB h.B rfl rfl) <| x (r_lenA h.un rfl) <| x r_move <| xe ?_
  refine W_block <| W_loop (α := Nat) [(4, 4), (6, 10), (16, 72)] (fun z => [(16, .int .i64 z)]) (fun z w' => z ≤ (unL aP ul).length ∧ Step [] w w' ∧ rfs aP aS ((unL aP ul).drop z) q.2 = rfs aP aS (unL aP ul) q.2) (fun z => (unL aP ul).length - z) (by rfl) 0 ⟨rfl, trivial⟩ ⟨Nat.zero_le _, Step.refl _ _, rfl⟩ ?_
  rintro i g w1 ⟨hi, hs1, hr⟩
  refine W_seq <| W_region (by rfl) ?_
  refine x (r_lss rfl rfl) <| xe ?_
  refine W_seq <| W_ifn rfl (fun h17 => ?_) (fun h17 => ?_)
  · refine W_exit ?_
    have hie : (unL aP ul).length ≤ i := by have h18 : ¬ (i : Int) < ((unL aP ul).length : Int) := h17; omega
    rw [List.drop_of_length_le hie] at hr
    refine W_seq <| W_region (by rfl) ?_
    refine x r_assign <| xe ?_
    exact W_ret ⟨[.int .i64 (-1)], ⟨rfl, trivial⟩, by rw [← hr]; rfl, hs1⟩
  refine W_skip ?_
  have hlt : i < (unL aP ul).length := by have h18 : (i : Int) < ((unL aP ul).length : Int) := h17; omega
  have hdr := drop_cons hlt
  rw [hdr, rfs_cons] at hr
  refine exE ((unL aP ul)[i]'hlt) fun u hu => ?_
  rw [hu] at hr
  have h1 := h.ext hs1
  have hin1 := hin.ext hs1
  have hg0 : q.2[0]'(by omega) = q.2.getD 0 0 := by simp [List.getD, hlen]
  have hg1 : q.2[1]'(by omega) = q.2.getD 1 0 := by simp [List.getD, hlen]
  refine W_seq <| W_block <| W_seq <| W_region (by rfl) ?_
  refine xii (i := i) h1.un rfl rfl hlt fun a18 h18 => ?_
  rw [hu] at h18
  refine x (r_loadA h18 rfl) <| x r_assign <| xe ?_
  refine W_seq <| W_draw (Step [] w1) [(0, true), (1, true), (2, true), (3, true), (4, true), (5, true), (6, true), (7, true), (8, true), (9, true), (10, true), (11, true), (12, true), (13, true), (14, true), (15, true), (16, true), (17, true), (18, true), (19, true), (20, true)] Tryz.mixed (by rfl) (by kernel_rfl) (Step.drew _ _) ?_
  refine p (fun _ => r_move) <| p (fun _ => r_nilCheck rfl) <| p (fun _ => r_fieldB rfl) <| pq (fun _ hc => r_loadB (h1.B.ext hc) rfl rfl) <| p (fun _ => r_move) <| p (fun _ => r_nilCheck rfl) <|
    p (fun _ => r_fieldB rfl) <| pq (fun _ hc => r_loadB (h1.B.ext hc) rfl rfl) <| p (fun _ => r_move) <| Lg.pig (i := k) (g := tvCells) rfl (fun _ => rfl) h1.T.arr rfl rfl hk fun a30 h30 => ?_
  rw [hq] at h30
  refine pq (fun _ hc => r_loadA (h30.ext hc) rfl) <| pii (i := 0) rfl hin1 rfl rfl (by omega) fun a32 h32 => ?_
  rw [hg0] at h32
  refine pq (fun _ hc => r_loadA (h32.ext hc) rfl) <| p (fun _ => r_move) <| p (fun _ => r_build ⟨rfl, rfl, trivial⟩) <| pq (fun _ hc => r_lookE (q := q.2.getD 0 0) (v := u) (h1.M1.ext hc) o1.edi rfl rfl) <| p (fun _ => r_move) <| p (fun _ => r_extract rfl rfl) <| p (fun _ => r_extract rfl rfl) <| p (fun _ => r_assign) <|
    p (fun _ => r_assign) <| pe ?_
  have hs2 : Step [] w1 { w1 with drawn := w1.drawn + 1 } := Step.drew _ _
  have h2 := h1.ext hs2
  have hin2 := hin1.ext hs2
  refine W_seq <| W_draw (Step [] { w1 with drawn := w1.drawn + 1 }) [(0, true), (1, true), (2, true), (3, true), (4, true), (5, true), (6, true), (7, true), (8, true), (9, true), (10, true), (11, true), (12, true), (13, true), (14, true), (15, true), (16, true), (17, true), (18, true), (19, true), (20, true)] Tryz.mixed (by rfl) (by kernel_rfl) (Step.drew _ _) ?_
  refine p (fun _ => r_move) <| p (fun _ => r_nilCheck rfl) <| p (fun _ => r_fieldB rfl) <| pq (fun _ hc => r_loadB (h2.B.ext hc) rfl rfl) <| p (fun _ => r_move) <| p (fun _ => r_nilCheck rfl) <|
    p (fun _ => r_fieldB rfl) <| pq (fun _ hc => r_loadB (h2.B.ext hc) rfl rfl) <| p (fun _ => r_move) <| Lg.pig (i := k) (g := tvCells) rfl (fun _ => rfl) h2.T.arr rfl rfl hk fun a49 h49 => ?_
  rw [hq] at h49
  refine pq (fun _ hc => r_loadA (h49.ext hc) rfl) <| pii (i := 1) rfl hin2 rfl rfl (by omega) fun a51 h51 => ?_
  rw [hg1] at h51
  refine pq (fun _ hc => r_loadA (h51.ext hc) rfl) <| p (fun _ => r_move) <| p (fun _ => r_build ⟨rfl, rfl, trivial⟩) <| pq (fun _ hc => r_lookE (q := q.2.getD 1 0) (v := u) (h2.M2.ext hc) o2.edi rfl rfl) <| p (fun _ => r_move) <| p (fun _ => r_extract rfl rfl) <| p (fun _ => r_extract rfl rfl) <| p (fun _ => r_assign) <|
    p (fun _ => r_assign) <| pe ?_
  have hs3 : Step [] w1 { w1 with drawn := w1.drawn + 1 + 1 } := hs2.trans (Step.drew _ _)
  have h3 := h1.ext hs3
  refine W_cut (α := Bool) [(58, 70)] (fun z => [(70, .bool z)]) (fun z w' => Step [] w1 w' ∧ z = rfu aP aS q.2 u) (by rfl) ?_ ?_
  · refine W_region (by rfl) ?_
    refine x r_move <| xb r_move (fun h59 => ?_) (fun h59 => ?_)
    · refine xb r_move (fun h60 => ?_) (fun h60 => ?_)
      · refine x (r_not rfl) <| x (r_pick rfl) <| x r_move <| xs rfl <| xs rfl <| xs rfl <| xs rfl <| xs rfl <| xs rfl <| x (r_pick rfl) <| xe ?_
        exact ⟨false, ⟨rfl, trivial⟩, hs3, by unfold rfu; rw [h60]; simp⟩
      · refine x (r_not rfl) <| x (r_pick rfl) <| x r_move <| x r_move <| x (r_nilCheck rfl) <| x (r_fieldB rfl) <| x (r_loadB h3.B rfl rfl) <| x r_move <| xl rfl <| xf <| (alContains_ok h3.al o2.ali u).mono ?_
        rintro r4 w4 ⟨rfl, rfl⟩
        refine x (r_pick rfl) <| xe ?_
        exact ⟨decide (u ∈ aS.al), ⟨rfl, trivial⟩, hs3, by unfold rfu; rw [h59, Bool.eq_false_iff.2 h60]; simp⟩
    · refine xs rfl <| xs rfl <| x (r_pick rfl) <| x r_move <| xs rfl <| xs rfl <| xs rfl <| xs rfl <| xs rfl <| xs rfl <| x (r_pick rfl) <| xe ?_
      exact ⟨false, ⟨rfl, trivial⟩, hs3, by unfold rfu; rw [Bool.eq_false_iff.2 h59]; simp⟩
  rintro z g w4 ⟨hs4, rfl⟩
  refine W_cond rfl (fun h70 => ?_) (fun h70 => ?_)
  · rw [if_pos h70] at hr
    refine W_seq <| W_region (by rfl) ?_
    refine x r_move <| x r_assign <| xe ?_
    exact W_ret ⟨[.int .i64 u], ⟨rfl, trivial⟩, by rw [← hr]; rfl, hs1.trans hs4⟩
  rw [if_neg (by rw [h70]; decide)] at hr
  refine W_skip ?_
  refine W_region (by rfl) ?_
  refine x (r_add rfl rfl ⟨by omega, by omega⟩) <| x r_move <| xe ?_
  exact ⟨i + 1, by omega, ⟨rfl, trivial⟩, hlt, hs1.trans hs4, hr⟩
theorem Check1_ok {b T : Nat} {n : Int} (e : Ed) (w : World) (hB : Blk w.heap b T [.int .i64 n]) :
    Ret Tryz.prog 34 ([.agg (edCells e).toArray] ++ [.pointer (some ⟨b, 0, none⟩)]) w fun r w' => r = .bool (decide (e.2.2 = n)) ∧ Step [] w w' := by
  refine Ret.of_W Tryz.func34 rfl Tryz.ntmps34 Tryz.results34 (by simp) ?_
  refine W_seq <| W_region (by rfl) ?_
  refine xl rfl <| o_box (us := edCells e) rfl fun b2 w1 hs1 hb2 hB2 => x r_assign <| xe ?_
  refine W_seq <| W_region (by rfl) ?_
  refine x (r_fieldB rfl) <| x (r_loadB hB2 rfl rfl) <| x (r_loadB (hB.ext hs1) rfl rfl) <| x (r_eql rfl rfl) <| x r_assign <| xe ?_
  exact W_ret ⟨[_], ⟨rfl, trivial⟩, rfl, hs1⟩
end Go.Proofs.YtfhgnlkdcdlblaaGreatDoor
/- Contract: controllable.Check of a right problem. -/
namespace Go.Proofs.YtfhgnlkdcdlblaaGreatDoor
open Go.Lg

def chkP (aP aS : Aut) (ul : List Int) (k : Nat) : Int := rfs aP aS (unL aP ul) ((opQ aP aS).getD k [])
def chkS (aP aS : Aut) (ul : List Int) : Option Nat := (List.range (opQ aP aS).length).find? fun k => decide (0 ≤ chkP aP aS ul k)
/-- The word, the event, and whether nothing is refused. -/
def chk (aP aS : Aut) (ul : List Int) : List Int × Int × Bool := match chkS aP aS ul with
  | none => ([], 0, true)
  | some k => ((bak (opA aP aS).ed (k + 1) k).reverse, chkP aP aS ul k, false)
theorem ixq_fto {es : List Ed} {s : Int} {r : Value} (h : IxQ (fun e : Ed => decide (e.2.2 = s)) es r) (hex : ∃ e ∈ es, e.2.2 = s) : ∃ (i : Nat) (hi : i < es.length), r = .int .i64 i ∧ es[i]'hi = fto es s := by
  rcases h with ⟨_, h⟩ | ⟨i, hi, h1, h2, h3⟩
  · obtain ⟨e, he, hs⟩ := hex
    obtain ⟨m, hm, rfl⟩ := List.getElem_of_mem he
    have := h m hm
    simp [hs] at this
  · refine ⟨i, hi, h1, ?_⟩
    have : es.find? (fun e => e.2.2 == s) = some (es[i]'hi) := by
      rw [List.find?_eq_some_iff_getElem]
      refine ⟨by simpa using h2, i, hi, rfl, fun j hj => ?_⟩
      have := h3 j hj
      simpa using this
    unfold fto; rw [this]; rfl
theorem Check_ok {w : World} {pva pvm pve sa sm se vl : Value} {aP aS : Aut} {ul : List Int} (hp : AutA [] w.heap pva pvm pve aP) (hs : AutA [] w.heap sa sm se aS) (hu : Ints [] w.heap vl ul) (hE : opE aP aS = 0) (hck : ckS 32 none ul = 0) (hst : aP.st ≤ 100 ∧ aS.st ≤ 100) :
    Ret Tryz.prog 8 [.agg #[pva, .int .i64 aP.st, pvm, pve], .agg #[sa, .int .i64 aS.st, sm, se], vl] w fun r w' => Step [] w w' ∧ ∃ v, r = .tuple #[v, .int .i64 (chk aP aS ul).2.1, .bool (chk aP aS ul).2.2, .int .i64 0] ∧ IntsO 3 w.heap.size w' v (chk aP aS ul).1 := by
  obtain ⟨o1, o2, hsync, hVt, hql⟩ := opE_zero hE
  obtain ⟨hSyP, oA, _⟩ := opE_syP hE
  have hpar := sync_par hsync
  have hsrt := oA.eds
  have hel := oA.ed_le
  have hAst := hSyP.st
  refine Ret.of_W Tryz.func8 rfl Tryz.ntmps8 Tryz.results8 (by simp) ?_
  refine W_seq <| W_region (by rfl) ?_
  refine xl rfl <| o_box (us := [pva, .int .i64 aP.st, pvm, pve]) rfl fun b3 w1 hs1 hb3 hB3 => xl rfl <| o_box (us := [sa, .int .i64 aS.st, sm, se]) rfl fun b4 w2 hs2 hb4 hB4 => x r_assign <| x r_assign <| x r_assign <| x r_assign <| xe ?_
  have hs12 := hs1.trans hs2
  refine W_seq <| W_region (by rfl) ?_
  refine x (r_loadsB (hB3.ext hs2) rfl rfl) <| x (r_loadsB hB4 rfl rfl) <| x r_move <| xl rfl <| xf <| (copen_ok (hp.ext hs12) (hs.ext hs12) (hu.ext hs12) hE hck hst).mono ?_
  rintro r3 w3 ⟨hs3, b, rfl, hb, m1, m2, sal, vu, qa, qm, qe, vt, qs, hC⟩
  have hW3 := hs12.trans hs3
  have hz3 := hW3.size
  refine x r_move <| x (r_extract rfl rfl) <| x (r_extract rfl rfl) <| x r_assign <| x r_assign <| xe ?_
  refine W_seq <| W_seq <| W_region (by rfl) ?_
  refine x r_move <| x (r_neq rfl rfl) <| xe ?_
  refine W_if rfl (fun h22 => absurd rfl h22) (fun h22 => ?_)
  refine W_skip ?_
  have hqn : qs.length = (opQ aP aS).length := by rw [← hC.q, List.length_map]
  refine W_seq <| W_seq <| W_region (by rfl) ?_
  refine x r_move <| x (r_nilCheck rfl) <| x (r_fieldB rfl) <| x (r_fieldB rfl) <| x (r_loadB hC.B rfl rfl) <| x r_move <| xe ?_
  refine W_block <| W_loop (α := Nat) [(6, 9), (11, 13), (29, 71)] (fun z => [(6, .slice none 0 0), (29, .int .i64 z)]) (fun z w' => z ≤ (opQ aP aS).length ∧ Step [] w3 w' ∧ ∀ m, m < z → ¬ 0 ≤ chkP aP aS ul m) (fun z => (opQ aP aS).length - z) (by rfl) 0 ⟨rfl, rfl, trivial⟩ ⟨Nat.zero_le _, Step.refl _ _, fun m hm => by omega⟩ ?_
  rintro k g w4 ⟨hk, hs4, hno⟩
  refine W_seq <| W_region (by rfl) ?_
  refine x (r_lss rfl rfl) <| xe ?_
  refine W_seq <| W_ifn rfl (fun h30 => ?_) (fun h30 => ?_)
  · refine W_exit ?_
    have hkn : k = (opQ aP aS).length := by have h31 : ¬ (k : Int) < (opA aP aS).st := h30; omega
    have hch : chk aP aS ul = ([], 0, true) := by
      unfold chk
      have : chkS aP aS ul = none := by
        unfold chkS
        rw [List.find?_eq_none]
        intro m hm
        have := hno m (by rw [hkn]; exact List.mem_range.1 hm)
        simpa using this
      rw [this]
    refine W_seq <| W_region (by rfl) ?_
    refine x r_assign <| x r_assign <| x r_assign <| x r_assign <| xe ?_
    refine W_ret ⟨[.slice none 0 0, .int .i64 0, .bool true, .int .i64 0], ⟨rfl, rfl, rfl, rfl, trivial⟩, hW3.trans hs4, .slice none 0 0, by rw [hch]; rfl, ?_⟩
    rw [hch]; exact own_nil _ _ _ _
  refine W_skip ?_
  have hkn : k < (opQ aP aS).length := by have h31 : (k : Int) < (opA aP aS).st := h30; omega
  have hkq : k < qs.length := by omega
  have htv := tv_at hkq hC.q
  have hvt : Vt [aP, aS] (qs[k]'hkq).2 := by
    rw [htv]
    exact hVt _ (by simp [List.getD, hkn])
  refine W_seq <| W_block <| W_seq <| W_region (by rfl) ?_
  refine x r_move <| xl rfl <| o_alloc (us := [.int .i64 0]) rfl fun b11 w5 hs5 hb11 hB11 => xl rfl <| o_store (u := .int .i64 k) hB11 rfl rfl (by decide) rfl fun w6 hs6 hB11' => xe ?_
  have hs36 : Step [] w3 w6 := hs4.trans (hs5.then1 hs6 hb11)
  have hz36 := hs4.size
  refine W_seq <| W_region (by rfl) ?_
  refine x r_move <| x (r_loadB hB11' rfl rfl) <| xl rfl <| xf <| (refused_ok (hC.ext hs36) o1 o2 hkq hvt).mono ?_
  rintro r7 w7 ⟨rfl, hs7⟩
  rw [htv]
  refine x r_assign <| xe ?_
  refine W_seq <| W_seq <| W_region (by rfl) ?_
  refine x r_move <| x (r_lss rfl rfl) <| xe ?_
  refine W_if rfl (fun h36 => ?_) (fun h36 => ?_)
  · refine W_exit ?_
    refine W_region (by rfl) ?_
    refine x (r_add rfl rfl ⟨by omega, by omega⟩) <| x r_move <| xe ?_
    refine ⟨k + 1, by omega, ⟨rfl, rfl, trivial⟩, hkn, hs36.trans hs7, fun m hm => ?_⟩
    by_cases e : m = k
    · subst e
      have h37 : chkP aP aS ul m < 0 := h36
      omega
    · exact hno m (by omega)
  refine W_skip ?_
  have h37 : 0 ≤ chkP aP aS ul k := by have h38 : ¬ chkP aP aS ul k < 0 := h36; omega
  have hch : chk aP aS ul = ((bak (opA aP aS).ed (k + 1) k).reverse, chkP aP aS ul k, false) := by
    unfold chk
    have : chkS aP aS ul = some k := by
      unfold chkS
      rw [List.find?_range_eq_some]
      refine ⟨by simpa using h37, List.mem_range.2 hkn, fun m hm => ?_⟩
      have := hno m hm
      simpa using this
    rw [this]
  have hs37 := hs36.trans hs7
  have hz37 := hs37.size
  have hl11 := hB11'.lt
  have hz7 := hs7.size
  have hB117 := hB11'.ext hs7
  have hb11' : w3.heap.size ≤ b11 := by omega
  refine W_seq <| W_block <| W_loop (α := Nat × Nat × Value × List Int) [(6, 6), (13, 13), (37, 66)] (fun z => [(6, z.2.2.1)])
    (fun z w' => Step [] w3 w' ∧ w7.heap.size ≤ w'.heap.size ∧ Blk w'.heap b11 3 [.int .i64 z.2.1] ∧ IntsO 3 w7.heap.size w' z.2.2.1 z.2.2.2 ∧ z.2.1 < z.1 ∧ z.2.1 < (opQ aP aS).length ∧ z.2.2.2.length + z.1 ≤ k + 1 ∧ z.2.2.2 ++ bak (opA aP aS).ed z.1 z.2.1 = bak (opA aP aS).ed (k + 1) k)
    (fun z => z.1) (by rfl) (k + 1, k, .slice none 0 0, []) ⟨rfl, trivial⟩ ⟨hs37, Nat.le_refl _, hB117, own_nil _ _ _ _, by simp, hkn, by simp, rfl⟩ ?_
  rintro ⟨f, s, v, acc⟩ g w8 ⟨hs8, hz8, hB8, hO8, hsf, hsn, hal, hbk⟩
  simp only [] at hB8 hO8 hsf hsn hal hbk
  refine Exists.elim (Nat.exists_eq_succ_of_ne_zero (show f ≠ 0 by omega)) fun f' hfe => ?_
  subst hfe
  rw [bak] at hbk
  refine W_seq <| W_seq <| W_region (by rfl) ?_
  refine x (r_loadB hB8 rfl rfl) <| x (r_gtr rfl rfl) <| xe ?_
  refine W_ifn rfl (fun h38 => ?_) (fun h38 => ?_)
  · refine W_exit ?_
    rw [if_neg (by have h39 : ¬ (s : Int) > 0 := h38; omega), List.append_nil] at hbk
    refine W_seq <| W_region (by rfl) ?_
    refine x r_move <| xl rfl <| xf <| (Reverse_ok hO8 (by omega)).mono ?_
    rintro r9 w9 ⟨hO9, hs9⟩
    refine xe ?_
    refine W_seq <| W_region (by rfl) ?_
    refine x r_move <| x r_move <| x r_assign <| x r_assign <| x r_assign <| x r_assign <| xe ?_
    refine W_ret ⟨[v, .int .i64 (chkP aP aS ul k), .bool false, .int .i64 0], ⟨rfl, rfl, rfl, rfl, trivial⟩, (hW3.trans hs8).then hs9 (fun c hc => .inr (by have := (own_ge hO8 c hc).1; omega)), v, by rw [hch]; rfl, ?_⟩
    rw [hch, ← hbk]; exact own_base hO9 (by omega)
  have hs0 : 0 < s := by have h39 : (s : Int) > 0 := h38; omega
  rw [if_pos (by omega)] at hbk
  have hft := fto_spec hpar hsrt hs0 hsn
  have hfe := oA.ed _ hft.1
  refine W_skip ?_
  have hC8 := hC.ext hs8
  refine W_block <| W_seq <| W_region (by rfl) ?_
  refine x r_move <| x (r_nilCheck rfl) <| x (r_fieldB rfl) <| x (r_fieldB rfl) <| x (r_loadB hC8.B rfl rfl) <| x (r_makeFunc (l := []) (l' := [_])) <| xl rfl <| xf <| (ixfE_ok (g := 34) (cap := [.pointer (some ⟨b11, 0, none⟩)]) (q := fun e => decide (e.2.2 = (s : Int))) hC8.A.ed (fun e w1 hsw => Check1_ok e w1 (hB8.ext hsw))).mono ?_
  rintro r10 w10 ⟨hs10, hix⟩
  refine Exists.elim (ixq_fto hix ⟨_, hft.1, hft.2.1⟩) fun i hi => Exists.elim hi fun hil hr => ?_
  refine exE (fto (opA aP aS).ed s) fun e he => ?_
  rw [he] at hft hfe hbk hr
  have hr1 := hr.1
  subst hr1
  refine x r_assign <| xe ?_
  have hs310 := hs8.trans hs10
  have hC10 := hC.ext hs310
  have hz10 := hs10.size
  refine W_seq <| W_region (by rfl) ?_
  refine x r_move <| x r_move <| x (r_nilCheck rfl) <| x (r_fieldB rfl) <| x (r_fieldB rfl) <| x (r_loadB hC10.B rfl rfl) <| x r_move <| xie (i := i) hC10.A.ed rfl rfl hil fun a53 h53 => ?_
  rw [hr.2] at h53
  refine x (r_field rfl) <| x (r_loadA (h53.fld 1 (.int .i64 e.2.1) rfl) rfl) <| xl rfl <| o_lits (us := [[.int .i64 e.2.1]]) rfl rfl (by decide) (by simp) ⟨rfl, rfl, trivial⟩ fun b56 w11 hs11 hb56 hB56 =>
    xl rfl <| o_app (m := 1) (news := [.int .i64 e.2.1]) (own_ext hO8 (hs10.trans hs11)) rfl rfl rfl (hB56.at (L := []) (by simp)) (by simp [Value.oneCell']) (by omega) (by have := hs11.size; omega) fun v12 w12 hO12 hs12' hn12 => x r_assign <| xe ?_
  have hz11 := hs11.size
  have hz12 := hs12'.size
  have hs312 : Step [] w3 w12 := (hs310.trans hs11).then hs12' (fun c hc => .inr (by have := (own_ge hO8 c hc).1; omega))
  have hC12 := hC.ext hs312
  have hB12 : Blk w12.heap b11 3 [.int .i64 s] := ((hB8.ext hs10).ext hs11).step hs12' (fun hm => by have := (own_ge hO8 _ hm).1; omega)
  refine W_region (by rfl) ?_
  refine x r_move <| x (r_nilCheck rfl) <| x (r_fieldB rfl) <| x (r_fieldB rfl) <| x (r_loadB hC12.B rfl rfl) <| x r_move <| xie (i := i) hC12.A.ed rfl rfl hil fun a64 h64 => ?_
  rw [hr.2] at h64
  refine x (r_field rfl) <| x (r_loadA (h64.fld 0 (.int .i64 e.1) rfl) rfl) <| xl rfl <| o_store (u := .int .i64 e.1) hB12 rfl rfl (by simp) rfl fun w13 hs13 hB13 => xe ?_
  have hen : e.1 = (e.1.toNat : Int) := by omega
  have hb11n : ∀ c ∈ ob v12, c ∉ [b11] := fun c hc => by have := (own_ge hO12 c hc).1; simp; omega
  have hB13' : Blk w13.heap b11 3 [.int .i64 (e.1.toNat : Int)] := by rw [← hen]; exact hB13
  refine ⟨(f', e.1.toNat, v12, acc ++ [e.2.1]), by simp only []; omega, ⟨rfl, trivial⟩, hs312.then1 hs13 hb11', by have := hs13.size; omega, hB13', own_step (IntsO.snoc hO12) hs13 hb11n, by simp only []; omega, by simp only []; omega, ?_, ?_⟩
  · simp only [List.length_append, List.length_singleton]; omega
  · rw [List.append_assoc]
    simp only [] at hbk ⊢
    rw [← hen]; exact hbk
end Go.Proofs.YtfhgnlkdcdlblaaGreatDoor
