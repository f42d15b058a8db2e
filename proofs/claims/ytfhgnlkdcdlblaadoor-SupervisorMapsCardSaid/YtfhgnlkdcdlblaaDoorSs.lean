/- The keys of tuples are different. -/
import Derived.Test.YtfhgnlkdcdlblaaDoorCg
namespace Go.Proofs.YtfhgnlkdcdlblaaDoor
open Go.Lg
theorem u8_ofNat {n : Nat} (h : n < 256) : (UInt8.ofNat n).toNat = n := by
  simp [Nat.mod_eq_of_lt h]
theorem dec_no32 (u : Nat) : (32 : UInt8) ∉ Lib.decDigits u := by
  induction u using Nat.strongRecOn with
  | _ u ih =>
    unfold Lib.decDigits
    split
    · intro h
      simp only [List.mem_singleton] at h
      have := congrArg UInt8.toNat h
      rw [u8_ofNat (by omega)] at this
      have h32 : (32 : UInt8).toNat = 32 := rfl
      omega
    · intro h
      rcases List.mem_append.1 h with h | h
      · exact ih _ (by omega) h
      · simp only [List.mem_singleton] at h
        have := congrArg UInt8.toNat h
        rw [u8_ofNat (by omega)] at this
        have h32 : (32 : UInt8).toNat = 32 := rfl
        omega
def dval (l : List UInt8) : Nat := l.foldl (fun a b => a * 10 + (b.toNat - 48)) 0
theorem dval_dec (u : Nat) : dval (Lib.decDigits u) = u := by
  induction u using Nat.strongRecOn with
  | _ u ih =>
    unfold Lib.decDigits
    split
    · simp only [dval, List.foldl_cons, List.foldl_nil]
      rw [u8_ofNat (by omega)]; omega
    · have := ih (u / 10) (by omega)
      unfold dval at *
      rw [List.foldl_append, this]
      simp only [List.foldl_cons, List.foldl_nil]
      rw [u8_ofNat (by omega)]; omega
theorem split32 : ∀ {a b r r' : List UInt8}, (32 : UInt8) ∉ a → (32 : UInt8) ∉ b → a ++ 32 :: r = b ++ 32 :: r' → a = b ∧ r = r'
  | [], [], _, _, _, _, h => by simpa using h
  | [], y :: b, _, _, _, hb, h => by simp at h; exact absurd h.1 (by intro e; exact hb (by simp [e]))
  | x :: a, [], _, _, ha, _, h => by simp at h; exact absurd h.1 (by intro e; exact ha (by simp [e]))
  | x :: a, y :: b, _, _, ha, hb, h => by
    simp only [List.cons_append, List.cons.injEq] at h
    have := split32 (fun e => ha (List.mem_cons_of_mem _ e)) (fun e => hb (List.mem_cons_of_mem _ e)) h.2
    exact ⟨by rw [h.1, this.1], this.2⟩
theorem keyB_inj : ∀ {l l' : List Int}, (∀ n ∈ l, 0 ≤ n) → (∀ n ∈ l', 0 ≤ n) → keyB l = keyB l' → l = l'
  | [], [], _, _, _ => rfl
  | [], y :: b, _, _, h => by simp [keyB] at h
  | x :: a, [], _, _, h => by simp [keyB] at h
  | x :: a, y :: b, ha, hb, h => by
    have h' : Lib.decDigits x.toNat ++ 32 :: keyB a = Lib.decDigits y.toNat ++ 32 :: keyB b := by simpa [keyB] using h
    obtain ⟨h1, h2⟩ := split32 (dec_no32 _) (dec_no32 _) h'
    have h3 : x.toNat = y.toNat := by rw [← dval_dec x.toNat, ← dval_dec y.toNat, h1]
    have h4 := keyB_inj (fun n hn => ha n (List.mem_cons_of_mem _ hn)) (fun n hn => hb n (List.mem_cons_of_mem _ hn)) h2
    have h5 := ha x List.mem_cons_self
    have h6 := hb y List.mem_cons_self
    rw [h4, show x = y by omega]
def keyA (l : List Int) : ByteArray := ⟨(keyB l).toArray⟩
theorem keyA_inj {l l' : List Int} (h1 : ∀ n ∈ l, 0 ≤ n) (h2 : ∀ n ∈ l', 0 ≤ n) (h : keyA l = keyA l') : l = l' := by
  refine keyB_inj h1 h2 ?_
  have := congrArg (fun b : ByteArray => b.data.toList) h
  simpa [keyA] using this
end Go.Proofs.YtfhgnlkdcdlblaaDoor
