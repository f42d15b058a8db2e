/- More rules: arrays, the bits of a number; a drawn region whose open orders are told by a tree. -/
import Derived.Test.YtfhgnlkdcdlblaaDoorLx
import Derived.Test.YtfhgnlkdcdlblaaDoorLw
namespace Go.Lg
section
variable {P : Program} {n : Nat} {f : Fr} {w : World} {d : Option Nat} {ty : Nat} {ps : String} {af : Array Edge} {gd : Option (Nat × Bool)}
/-- t is an array of m elements of type e, sz cells each. -/
class Ay (P : Program) (t : Nat) (m e sz : outParam Nat) : Prop where
  u : P.underlying t = some (.array m e)
  i : (P.info? e).map (·.size) = some sz
theorem r_indexR {x y : Operand} {t m e sz : Nat} [h : Ay P t m e sz] {b o : Nat} {k : IntKind} {i : Nat} (hx : ev f x = .pointer (some ⟨b, o, none⟩)) (hy : ev f y = .int k i) (h1 : i < m) :
    (execOp (ev f) ⟨d, .indexAddr t x y, ty, ps, af, gd⟩).run P w = .ok (.value (.pointer (some ⟨b, o + i * sz, none⟩))) w := by
  have hi := h.i
  cases hn : P.info? e with
  | none => simp [hn] at hi
  | some ii =>
    simp [hn] at hi
    simp [execOp, hx, hy, Instr.indexAt, asIntOf, run_underlying h.u, Instr.sureAddr, sizeOf, typeInfo, hn, hi, lit_add']
    intro h2; omega
theorem and_le8 {a b : Nat} (ha : a < 256) : inK .u8 ((a &&& b : Nat) : Int) := by
  have : a &&& b ≤ a := Nat.and_le_left
  exact ⟨by omega, by omega⟩
theorem r_and8 {t t' : Nat} {x y : Operand} {a b : Nat} (hx : ev f x = .int .u8 a) (hy : ev f y = .int .u8 b) (ha : a < 256) (hb : b < 256) :
    (execOp (ev f) ⟨d, .binOp .and t x y t', ty, ps, af, gd⟩).run P w = .ok (.value (.int .u8 ((a &&& b : Nat) : Int))) w := by
  refine r_bin hx hy ?_
  simp only [binOp, Op.intBits, BitVec.ofInt_natCast, ne_eq, not_true_eq_false, if_false, Sem.run_pure]
  rw [BitVec.toNat_and, BitVec.toNat_ofNat, BitVec.toNat_ofNat, Nat.mod_eq_of_lt (show a < 2 ^ IntKind.u8.bits from ha), Nat.mod_eq_of_lt (show b < 2 ^ IntKind.u8.bits from hb), wrap_in (and_le8 ha)]
theorem and_le32 {a b : Nat} (ha : a < 4294967296) : inK .u32 ((a &&& b : Nat) : Int) := by
  have : a &&& b ≤ a := Nat.and_le_left
  exact ⟨by omega, by omega⟩
theorem r_and32 {t t' : Nat} {x y : Operand} {a b : Nat} (hx : ev f x = .int .u32 a) (hy : ev f y = .int .u32 b) (ha : a < 4294967296) (hb : b < 4294967296) :
    (execOp (ev f) ⟨d, .binOp .and t x y t', ty, ps, af, gd⟩).run P w = .ok (.value (.int .u32 ((a &&& b : Nat) : Int))) w := by
  refine r_bin hx hy ?_
  simp only [binOp, Op.intBits, BitVec.ofInt_natCast, ne_eq, not_true_eq_false, if_false, Sem.run_pure]
  rw [BitVec.toNat_and, BitVec.toNat_ofNat, BitVec.toNat_ofNat, Nat.mod_eq_of_lt (show a < 2 ^ IntKind.u32.bits from ha), Nat.mod_eq_of_lt (show b < 2 ^ IntKind.u32.bits from hb), wrap_in (and_le32 ha)]
theorem shr_nat (m i : Nat) : ((m : Int) / 2 ^ i) = ((m / 2 ^ i : Nat) : Int) := by rw [Int.natCast_ediv, Int.natCast_pow]; rfl
end

/-! ### The tree of the open orders -/
inductive Pt where
  | pl (l : List (Nat × Bool))
  | fk (pre : List (Nat × Bool)) (i j : Nat) (t1 t2 : Pt)
def Pt.len : Pt → Nat
  | .pl l => l.length
  | .fk pre _ _ t1 _ => pre.length + (1 + t1.len)
def quietGo (all : Array Oper) : List (Nat × Bool) → Array Bool → Bool
  | [], _ => true
  | (k, q) :: pl, ls => q && (Region.ready .any all ls).contains k && Region.free .any all ls k && quietGo all pl (ls.setIfInBounds k true)
def quietLs : List (Nat × Bool) → Array Bool → Array Bool
  | [], ls => ls
  | (k, _) :: pl, ls => quietLs pl (ls.setIfInBounds k true)
def ptGo (all : Array Oper) : Pt → Array Bool → Bool
  | .pl l, ls => planGo all l ls
  | .fk pre i j t1 t2, ls => quietGo all pre ls && Region.ready .any all (quietLs pre ls) == [i, j] && t1.len == t2.len && ptGo all t1 ((quietLs pre ls).setIfInBounds i true) && ptGo all t2 ((quietLs pre ls).setIfInBounds j true)
def ptOk (all : List Oper) (t : Pt) : Bool := Region.noSelect all.toArray && t.len == all.length && ptGo all.toArray t (Array.replicate all.length false)
def XT (P : Program) (all : List Oper) (C : World → Prop) (K : Fr → World → Prop) : Pt → Fr → World → Prop
  | .pl l => XP P all C K l
  | .fk pre i j t1 t2 => XP P all C (fun f w => (gdF all f (opAt all i) = true ∧ XO P (opAt all i) f w fun f' w' => C w' ∧ XT P all C K t1 f' w') ∧
      (gdF all f (opAt all j) = true ∧ XO P (opAt all j) f w fun f' w' => C w' ∧ XT P all C K t2 f' w')) pre
section
variable {P : Program} {n : Nat} {f : Fr} {w : World} {all : List Oper} {C : World → Prop} {K B : Fr → World → Prop}
theorem quietLs_size : ∀ (pl : List (Nat × Bool)) (ls : Array Bool), (quietLs pl ls).size = ls.size
  | [], _ => rfl
  | (k, q) :: pl, ls => by rw [quietLs, quietLs_size]; simp
theorem XA_of_quiet {m : Nat} (hs : Region.noSelect all.toArray = true) : ∀ (pl : List (Nat × Bool)) (ls : Array Bool) (f : Fr) (w : World), C w → quietGo all.toArray pl ls = true →
    (∀ f, B f w → XA P all C K m (quietLs pl ls) f w) → XP P all C B pl f w → XA P all C K (pl.length + m) ls f w
  | [], ls, f, w, hC, hp, hB, h => by
    simp only [XP] at h
    rw [List.length_nil, Nat.zero_add]
    exact hB f h
  | (i0, q) :: pl, ls, f, w, hC, hp, hB, h => by
    simp only [quietGo, Bool.and_eq_true] at hp
    obtain ⟨⟨⟨rfl, hr⟩, hf⟩, hp'⟩ := hp
    simp only [XP] at h
    have hri : i0 ∈ Region.ready .any all.toArray ls := by simpa using hr
    have e : (List.length ((i0, true) :: pl)) + m = (pl.length + m) + 1 := by simp; omega
    rw [e]
    cases ho : all[i0]? with
    | none =>
      exfalso
      obtain ⟨_, o, hoo, _⟩ := mem_ready.1 hri
      simp [ho] at hoo
    | some o =>
      rw [opAt_some ho] at h
      have hsel : ∀ (j : Nat) (o : Oper) cs b, all[j]? = some o → o.op ≠ .select cs b := fun j o cs b hj => Region.noSelect_spec hs j o cs b (by simpa using hj)
      have hfree := fun j oj hj => Region.free_spec (ops := all.toArray) (md := .any) (i := i0) (oi := o) (listed := ls) (by simpa using ho) hf j oj (by simpa using hj)
      cases hg : gdF all f o with
      | false =>
        rw [hg] at h
        exact XA_first (v := undef) (D := fun w => rdB o = true → C w) ho (fun _ h => h) hsel _ ls f w (fun _ => hC) hfree hri (.inr ⟨hg, rfl⟩) (XA_of_quiet hs pl _ _ _ hC hp' hB h)
      | true =>
        rw [hg] at h
        simp only [cond_true] at h
        obtain ⟨v, hv, hx⟩ := h
        exact XA_first (v := v) (D := fun w => rdB o = true → C w) ho (fun _ h => h) hsel _ ls f w (fun _ => hC) hfree hri (.inl ⟨hg, hv⟩) (XA_of_quiet hs pl _ _ _ hC hp' hB hx)
theorem XA_of_tree (hs : Region.noSelect all.toArray = true) : ∀ (t : Pt) (ls : Array Bool) (f : Fr) (w : World), ls.size = all.length → C w → ptGo all.toArray t ls = true → XT P all C K t f w → XA P all C K t.len ls f w
  | .pl l, ls, f, w, hsz, hC, hp, h => XA_of_plan hs l ls f w hsz (.inl hC) hp h
  | .fk pre i j t1 t2, ls, f, w, hsz, hC, hp, h => by
    simp only [ptGo, Bool.and_eq_true, beq_iff_eq] at hp
    obtain ⟨⟨⟨⟨hq, hr⟩, hl⟩, h1⟩, h2⟩ := hp
    rw [Pt.len]
    refine XA_of_quiet (B := fun f w => (gdF all f (opAt all i) = true ∧ XO P (opAt all i) f w fun f' w' => C w' ∧ XT P all C K t1 f' w') ∧
      (gdF all f (opAt all j) = true ∧ XO P (opAt all j) f w fun f' w' => C w' ∧ XT P all C K t2 f' w')) hs pre ls f w hC hq (fun f hB => ?_) h
    have hsz' : ∀ k, ((quietLs pre ls).setIfInBounds k true).size = all.length := fun k => by simp [quietLs_size, hsz]
    rw [Nat.add_comm 1]
    refine XA_succ (fun h0 => (by rw [h0] at hr; cases hr)) ?_
    rw [hr]
    intro k hk o ho
    simp only [List.mem_cons, List.not_mem_nil, or_false] at hk
    rcases hk with rfl | rfl
    · have := hB.1
      rw [opAt_some ho] at this
      rw [this.1, cond_true]
      exact this.2.mono fun v w' hx => ⟨.inr (.inr hx.1), XA_of_tree hs t1 _ _ _ (hsz' _) hx.1 h1 hx.2⟩
    · have := hB.2
      rw [opAt_some ho] at this
      rw [this.1, cond_true, hl]
      exact this.2.mono fun v w' hx => ⟨.inr (.inr hx.1), XA_of_tree hs t2 _ _ _ (hsz' _) hx.1 h2 hx.2⟩
theorem W_drawT {Q : Exit → Fr → World → Prop} {id : Nat} (C : World → Prop) (t : Pt) (hm : P.follows .mixedOrders = true) (hn : dstOk n all = true) (hp : ptOk all t = true)
    (hC : C { w with drawn := w.drawn + 1 }) (h : XT P all C (fun f w => Q .normal f w) t f { w with drawn := w.drawn + 1 }) : W P n (.region id all.toArray true) Q f w := by
  simp only [ptOk, Bool.and_eq_true, beq_iff_eq] at hp
  obtain ⟨⟨hs, hl⟩, hp⟩ := hp
  refine W_draw_any C hm hn ?_
  have h1 := XA_of_tree hs t _ _ _ (by simp) hC hp h
  rw [hl] at h1
  exact h1
end
end Go.Lg
