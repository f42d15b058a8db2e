/- A drawn region in which, behind the quiet operations, two may come up in either order. -/
import Derived.Test.YtfhgnlkdcdlblaaDoorLo
namespace Go.Lg
section
variable {P : Program} {n : Nat} {f : Fr} {w : World} {all : List Oper} {C : World → Prop} {K : Fr → World → Prop}
def forkGo (all : Array Oper) (i j : Nat) (p1 p2 : List (Nat × Bool)) : List (Nat × Bool) → Array Bool → Bool
  | [], ls => Region.ready .any all ls == [i, j] && planGo all p1 (ls.setIfInBounds i true) && planGo all p2 (ls.setIfInBounds j true)
  | (k, q) :: pl, ls => q && (Region.ready .any all ls).contains k && Region.free .any all ls k && forkGo all i j p1 p2 pl (ls.setIfInBounds k true)
def forkOk (all : List Oper) (pl : List (Nat × Bool)) (i j : Nat) (p1 p2 : List (Nat × Bool)) : Bool :=
  Region.noSelect all.toArray && pl.length + 1 + p1.length == all.length && p1.length == p2.length && forkGo all.toArray i j p1 p2 pl (Array.replicate all.length false)
/-- Both orders. -/
def Fk (P : Program) (all : List Oper) (C : World → Prop) (K : Fr → World → Prop) (i j : Nat) (p1 p2 : List (Nat × Bool)) (f : Fr) (w : World) : Prop :=
  (gdF all f (opAt all i) = true ∧ XO P (opAt all i) f w fun f' w' => C w' ∧ XP P all C K p1 f' w') ∧
  (gdF all f (opAt all j) = true ∧ XO P (opAt all j) f w fun f' w' => C w' ∧ XP P all C K p2 f' w')
theorem XA_of_fork {i j : Nat} {p1 p2 : List (Nat × Bool)} (hl : p1.length = p2.length) (hs : Region.noSelect all.toArray = true) : ∀ (pl : List (Nat × Bool)) (ls : Array Bool) (f : Fr) (w : World), ls.size = all.length → C w → forkGo all.toArray i j p1 p2 pl ls = true →
    XP P all C (Fk P all C K i j p1 p2) pl f w → XA P all C K (pl.length + (1 + p1.length)) ls f w
  | [], ls, f, w, hsz, hC, hp, h => by
    simp only [forkGo, Bool.and_eq_true, beq_iff_eq] at hp
    obtain ⟨⟨hr, h1⟩, h2⟩ := hp
    simp only [XP] at h
    rw [List.length_nil, Nat.zero_add, Nat.add_comm]
    refine XA_succ (fun h0 => (by rw [h0] at hr; cases hr)) ?_
    rw [hr]
    intro k hk o ho
    have hsz' : (ls.setIfInBounds k true).size = all.length := by simpa using hsz
    simp only [List.mem_cons, List.not_mem_nil, or_false] at hk
    rcases hk with rfl | rfl
    · have := h.1
      rw [opAt_some ho] at this
      rw [this.1, cond_true]
      exact this.2.mono fun v w' hx => ⟨.inr (.inr hx.1), XA_of_plan hs p1 _ _ _ hsz' (.inl hx.1) h1 hx.2⟩
    · have := h.2
      rw [opAt_some ho] at this
      rw [this.1, cond_true, hl]
      exact this.2.mono fun v w' hx => ⟨.inr (.inr hx.1), XA_of_plan hs p2 _ _ _ hsz' (.inl hx.1) h2 hx.2⟩
  | (i0, q) :: pl, ls, f, w, hsz, hC, hp, h => by
    simp only [forkGo, Bool.and_eq_true] at hp
    obtain ⟨⟨⟨rfl, hr⟩, hf⟩, hp'⟩ := hp
    simp only [XP] at h
    have hri : i0 ∈ Region.ready .any all.toArray ls := by simpa using hr
    have e : (List.length ((i0, true) :: pl)) + (1 + p1.length) = (pl.length + (1 + p1.length)) + 1 := by simp; omega
    rw [e]
    cases ho : all[i0]? with
    | none =>
      exfalso
      obtain ⟨_, o, hoo, _⟩ := mem_ready.1 hri
      simp [ho] at hoo
    | some o =>
      rw [opAt_some ho] at h
      have hsel : ∀ (j : Nat) (o : Oper) cs b, all[j]? = some o → o.op ≠ .select cs b := fun j o cs b hj => Region.noSelect_spec hs j o cs b (by simpa using hj)
      have hfree := fun j oj hj => Region.free_spec (ops := all.toArray) (md := .any) (i := i0) (oi := o) (listed := ls) (by simpa using ho) hf j oj (by simpa using hj)
      have hsz' : (ls.setIfInBounds i0 true).size = all.length := by simpa using hsz
      cases hg : gdF all f o with
      | false =>
        rw [hg] at h
        exact XA_first (v := undef) (D := fun w => rdB o = true → C w) ho (fun _ h => h) hsel _ ls f w (fun _ => hC) hfree hri (.inr ⟨hg, rfl⟩) (XA_of_fork hl hs pl _ _ _ hsz' hC hp' h)
      | true =>
        rw [hg] at h
        simp only [cond_true] at h
        obtain ⟨v, hv, hx⟩ := h
        exact XA_first (v := v) (D := fun w => rdB o = true → C w) ho (fun _ h => h) hsel _ ls f w (fun _ => hC) hfree hri (.inl ⟨hg, hv⟩) (XA_of_fork hl hs pl _ _ _ hsz' hC hp' hx)
theorem W_draw2 {Q : Exit → Fr → World → Prop} {id : Nat} (C : World → Prop) (pl : List (Nat × Bool)) (i j : Nat) (p1 p2 : List (Nat × Bool)) (hm : P.follows .mixedOrders = true) (hn : dstOk n all = true) (hp : forkOk all pl i j p1 p2 = true)
    (hC : C { w with drawn := w.drawn + 1 }) (h : XP P all C (Fk P all C (fun f w => Q .normal f w) i j p1 p2) pl f { w with drawn := w.drawn + 1 }) : W P n (.region id all.toArray true) Q f w := by
  simp only [forkOk, Bool.and_eq_true, beq_iff_eq] at hp
  obtain ⟨⟨⟨hs, hl⟩, hl2⟩, hp⟩ := hp
  refine W_draw_any C hm hn ?_
  have h1 := XA_of_fork hl2 hs pl _ _ _ (by simp) hC hp h
  rw [← Nat.add_assoc, hl] at h1
  exact h1
end
end Go.Lg
