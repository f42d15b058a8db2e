/- More rules: reading a list by cget; a look-up in the map of the edges; storing into an owned list. -/
import Derived.Test.YtfhgnlkdcdlblaaDoorLu
namespace Go.Lg
open Go.Proofs.YtfhgnlkdcdlblaaDoor
theorem cget_eq {l : List Int} {i : Nat} (h : i < l.length) : l[i] = cget l i := by simp [cget, List.getD, h]
section
variable {P : Program} {ops l : List Oper} {K : Fr → World → Prop} {f : Fr} {w : World} {d : Option Nat} {ty : Nat} {ps : String} {af : Array Edge} {gd : Option (Nat × Bool)} {C : World → Prop} {pl : List (Nat × Bool)} {i0 : Nat}
theorem xic {x y : Operand} {t e bys : Nat} {z : Value} [Sl P t e 1 bys z] {L : List Nat} {li : List Int} {v : Value} {k : IntKind} {i : Nat}
    (h : Ints L w.heap v li) (hv : ev f x = v) (hy : ev f y = .int k i) (hi : i < li.length)
    (hK : ∀ a, At L w.heap a [.int .i64 (cget li i)] → XL P ops K l (putF f d (.pointer (some a))) w) (hg : gdF ops f ⟨d, .indexAddr t x y, ty, ps, af, gd⟩ = true := by rfl) :
    XL P ops K (⟨d, .indexAddr t x y, ty, ps, af, gd⟩ :: l) f w :=
  xii h hv hy hi (fun a ha => hK a (by rw [← cget_eq hi]; exact ha)) hg
theorem pic {x y : Operand} {t e bys : Nat} {z : Value} [Sl P t e 1 bys z] {L : List Nat} {li : List Int} {v : Value} {H : Array Obj} {k : IntKind} {i : Nat}
    (ho : opAt ops i0 = ⟨d, .indexAddr t x y, ty, ps, af, gd⟩) (h : Ints L H v li) (hv : ev f x = v) (hy : ev f y = .int k i) (hi : i < li.length)
    (hK : ∀ a, At L H a [.int .i64 (cget li i)] → XP P ops C K pl (putF f d (.pointer (some a))) w) (hg : gdF ops f (opAt ops i0) = true := by rfl) : XP P ops C K ((i0, true) :: pl) f w :=
  pii ho h hv hy hi (fun a ha => hK a (by rw [← cget_eq hi]; exact ha)) hg
theorem r_lookT {t kt et : Nat} [hm : Mp P t kt et (.int .i64 0)] [hk : Key P kt kPair] {x y : Operand} {b : Nat} {s : Aut} {q : Nat} {v : Int} {u : Nat} (h : MapB kPair w.heap b (edMap [] s.ed)) (hs : s.ed.Pairwise fun x y => x.1 < y.1 ∨ (x.1 = y.1 ∧ x.2.1 < y.2.1))
    (hu : to0 s q v = u) (hx : ev f x = .map (some b)) (hy : ev f y = kPair ((q : Int), v)) :
    (execOp (ev f) ⟨d, .lookup t x y false, ty, ps, af, gd⟩).run P w = .ok (.value (.int .i64 u)) w := by
  rw [r_lookup1 h hx hy, edMap_get s.ed [] q v hs, ← hu]
  unfold to0
  cases eget s.ed q v <;> rfl
theorem o_storeIO {t : Nat} [h1 : One P t] {x y : Operand} {base e g cap i : Nat} {li : List Int} {v : Value} {u : Int} (h : IntsO e base w v li) (hv : v = .slice (some ⟨g, 0, none⟩) li.length cap) (hx : ev f x = .pointer (some ⟨g, 0 + i * 1, none⟩)) (hy : ev f y = .int .i64 u) (hi : i < li.length)
    (hK : ∀ w', Step (ob v) w w' → IntsO e base w' v (li.set i u) → K (putF f d undef) w') : XO P ⟨d, .store t x y, ty, ps, af, gd⟩ f w K := by
  have h' := h
  unfold IntsO at h'
  rw [hv] at h'
  refine o_storeO h' hx hy hi rfl fun w' hs hw => hK w' (by rw [hv]; exact hs) ?_
  unfold IntsO
  rw [List.length_set, List.map_set, hv]; exact hw
end
theorem rng_cons {a n : Nat} (h : a < n) : List.range' a (n - a) = a :: List.range' (a + 1) (n - (a + 1)) := by
  rw [show n - a = (n - (a + 1)) + 1 by omega, List.range'_succ]
theorem rng_nil {a n : Nat} (h : n ≤ a) : List.range' a (n - a) = [] := by rw [show n - a = 0 by omega]; rfl
end Go.Lg
