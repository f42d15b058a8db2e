/- Lists of Controls as data. -/
import Derived.Test.YtfhgnlkdcdlblaaDoorLt
import Derived.Test.YtfhgnlkdcdlblaaDoorSu
namespace Go.Proofs.YtfhgnlkdcdlblaaDoor
open Go.Lg

theorem flat_set {α : Type} (g : α → List Value) (sz : Nat) (hg : ∀ x, (g x).length = sz) : ∀ (l : List α) (i j : Nat) (h : i < l.length) (y : α) (u : Value), j < sz → g y = (g l[i]).set j u →
    (l.flatMap g).set (i * sz + j) u = (l.set i y).flatMap g
  | x :: l, 0, j, h, y, u, hj, hy => by
    simp only [List.getElem_cons_zero] at hy
    simp only [Nat.zero_mul, Nat.zero_add, List.flatMap_cons, List.set_cons_zero]
    rw [List.set_append_left _ _ (by rw [hg]; exact hj), hy]
  | x :: l, i + 1, j, h, y, u, hj, hy => by
    simp only [List.getElem_cons_succ] at hy
    simp only [List.flatMap_cons, List.set_cons_succ]
    rw [List.set_append_right _ _ (by rw [hg, Nat.add_mul]; omega), hg, show (i + 1) * sz + j - sz = i * sz + j by rw [Nat.add_mul]; omega, flat_set g sz hg l i j (by simpa using h) y u hj hy]
theorem flat_get {α : Type} (g : α → List Value) (sz : Nat) (hg : ∀ x, (g x).length = sz) (l : List α) (i j : Nat) (h : i < l.length) (hj : j < sz) : (l.flatMap g)[i * sz + j]? = (g l[i])[j]? := by
  rw [← flat_at g sz hg l i h, List.getElem?_take, if_pos hj, List.getElem?_drop]
/-- A Control: its two lists in memory. -/
structure CV where
  ve : Value
  vd : Value
  c : Ctl
abbrev cvCells (p : CV) : List Value := [p.ve, p.vd, .bool p.c.mk', .bool p.c.ps]
theorem cv_len (p : CV) : (cvCells p).length = 4 := rfl
structure CvA (L : List Nat) (H : Array Obj) (p : CV) : Prop where
  en : Ints L H p.ve p.c.en
  dis : Ints L H p.vd p.c.dis
structure Ctls (L : List Nat) (H : Array Obj) (v : Value) (cs : List CV) : Prop where
  arr : Arr L H v cs.length 4 (cs.flatMap cvCells)
  each : ∀ p ∈ cs, CvA L H p
theorem CvA.ext {L : List Nat} {w w' : World} {p : CV} (h : CvA L w.heap p) (hs : Step [] w w') : CvA L w'.heap p := ⟨h.en.ext hs, h.dis.ext hs⟩
theorem CvA.st {L : List Nat} {w w' : World} {p : CV} (h : CvA L w.heap p) (hs : Step L w w') : CvA L w'.heap p := ⟨h.en.st hs, h.dis.st hs⟩
theorem CvA.up {L L' : List Nat} {H : Array Obj} {p : CV} (h : CvA L H p) (hL : ∀ b ∈ L', b ∈ L ∨ H.size ≤ b) : CvA L' H p := ⟨h.en.up hL, h.dis.up hL⟩
theorem Ctls.ext {L : List Nat} {w w' : World} {v : Value} {cs : List CV} (h : Ctls L w.heap v cs) (hs : Step [] w w') : Ctls L w'.heap v cs := ⟨h.arr.ext hs, fun p hp => (h.each p hp).ext hs⟩
theorem Ctls.st {L : List Nat} {w w' : World} {v : Value} {cs : List CV} (h : Ctls L w.heap v cs) (hs : Step L w w') : Ctls L w'.heap v cs := ⟨h.arr.st hs, fun p hp => (h.each p hp).st hs⟩
theorem Ctls.up {L L' : List Nat} {H : Array Obj} {v : Value} {cs : List CV} (h : Ctls L H v cs) (hL : ∀ b ∈ L', b ∈ L ∨ H.size ≤ b) : Ctls L' H v cs := ⟨h.arr.up hL, fun p hp => (h.each p hp).up hL⟩
/-- Controls in new memory. -/
def CtlF (N : Nat) (H : Array Obj) (v : Value) (l : List Ctl) : Prop := ∃ cs : List CV, cs.map (·.c) = l ∧ ∀ L : List Nat, (∀ b ∈ L, b < N) → Ctls L H v cs
theorem CtlF.ext {N : Nat} {w w' : World} {v : Value} {l : List Ctl} (h : CtlF N w.heap v l) (hs : Step [] w w') : CtlF N w'.heap v l := let ⟨cs, h1, h2⟩ := h; ⟨cs, h1, fun L hL => (h2 L hL).ext hs⟩
theorem CtlF.mono {N M : Nat} {H : Array Obj} {v : Value} {l : List Ctl} (h : CtlF N H v l) (hM : M ≤ N) : CtlF M H v l := let ⟨cs, h1, h2⟩ := h; ⟨cs, h1, fun L hL => h2 L (fun b hb => Nat.lt_of_lt_of_le (hL b hb) hM)⟩
theorem lget_cv {cs : List CV} {l : List Ctl} (h : cs.map (·.c) = l) {i : Nat} (hi : i < cs.length) : lget l i = cs[i].c := by
  subst h; simp [lget, List.getD, hi]
end Go.Proofs.YtfhgnlkdcdlblaaDoor
