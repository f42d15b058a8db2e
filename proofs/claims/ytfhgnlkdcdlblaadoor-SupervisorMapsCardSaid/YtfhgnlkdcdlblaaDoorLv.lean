/- append of a slice that may be nil. -/
import Derived.Test.YtfhgnlkdcdlblaaDoorLx
namespace Go.Lg
section
variable {P : Program} {f : Fr} {w : World} {K : Fr → World → Prop} {d : Option Nat} {ty : Nat} {ps : String} {af : Array Edge} {gd : Option (Nat × Bool)}
theorem run_append_none {t ty e sz bys : Nat} {z : Value} [h : Sl P t e sz bys z] {base : Nat} {v : Value} {n : Nat} {cs : List Value} (hown : w.ownsRow base e sz v n cs) :
    (Builtin.append_ #[t, t] ty #[v, .slice none 0 0]).run P w = .ok v w := by
  obtain ⟨i, hi, _, hsz, _⟩ := Sl.info h
  rcases hown.2 with ⟨rfl, rfl⟩ | ⟨g, cap, cur, rfl, hbg, hgg, hnc, hcm, hcs, htake⟩
  · simp [Builtin.append_, run_underlying h.u, sizeOf, typeInfo, hi, Builtin.lenOf, Builtin.firstCells]
  · simp [Builtin.append_, run_underlying h.u, sizeOf, typeInfo, hi, Builtin.lenOf, Builtin.firstCells, hnc, storeCells]
theorem o_appV {t e sz bys : Nat} {z : Value} [h : Sl P t e sz bys z] {s y : Operand} {base : Nat} {v : Value} {n : Nat} {cs : List Value} (hown : w.ownsRow base e sz v n cs) (hs : ev f s = v)
    {v2 : Value} {m : Nat} {news : List Value} {L : List Nat} (hA : Arr L w.heap v2 m sz news) (hy : ev f y = v2) (h1 : ∀ u ∈ news, u.oneCell' = true)
    (hb : n + m ≤ 1099511627776) (hbase : base ≤ w.heap.size)
    (hK : ∀ v' w', w'.ownsRow base e sz v' (n + m) (cs ++ news) → Step (ob v) w w' → (∀ b ∈ ob v', b ∈ ob v ∨ w.heap.size ≤ b) → K (putF f d v') w') (hby : bys ≤ 128 := by decide) :
    XO P ⟨d, .call ⟨.builtin .append, #[s, y], #[t, t]⟩, ty, ps, af, gd⟩ f w K := by
  rcases hA.2.2 with ⟨e1, e2⟩ | ⟨a, c, e1, _, e3⟩
  · subst e2
    have hn : news = [] := List.eq_nil_of_length_eq_zero (by have := hA.1; simpa using this)
    subst hn
    have hr' : (execOp (ev f) ⟨d, .call ⟨.builtin .append, #[s, y], #[t, t]⟩, ty, ps, af, gd⟩).run P w = .ok (.value v) w := by
      simp [execOp, resolve, invoke, builtin, hs, hy, e1, run_append_none (ty := ty) hown]
    exact xv hr' (hK v w (by simpa using hown) (Step.refl _ _) (fun b hb => .inl hb))
  · exact o_app hown hs (hy.trans e1) hA.1 e3 h1 hb hbase hK hby
end
end Go.Lg
