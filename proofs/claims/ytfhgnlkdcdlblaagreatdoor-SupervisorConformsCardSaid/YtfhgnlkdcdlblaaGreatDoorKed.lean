/- Merged out of 13 texts. -/
import Derived.Test.YtfhgnlkdcdlblaaGreatDoorKec
/- Merged out of the texts Da Sz Db Dc Dd De Df. -/
/- Contracts: overseerref03's has, Step, index, Empty. -/
namespace Go.Proofs.YtfhgnlkdcdlblaaGreatDoor
open Go.Lg

/-- has (ref 3) -/
theorem hasR_ok {L : List Nat} {w : World} {v : Value} {l : List Int} (h : Ints L w.heap v l) (x : Int) :
    Ret Tryz.prog 82 [v, .int .i64 x] w fun r w' => r = .bool (decide (x ∈ l)) ∧ w' = w := by
  have hle := h.le
  refine Ret.of_W Tryz.func82 rfl Tryz.ntmps82 Tryz.results82 (by simp) ?_
  refine W_seq <| W_region (by rfl) ?_
  refine Lg.x r_assign <| xe ?_
  refine W_seq <| W_seq <| W_region (by rfl) ?_
  refine Lg.x r_assign <| xe ?_
  refine W_block <| W_loop (α := Nat) [(4, 17)] (fun k => [(5, .int .i64 k)]) (fun k w' => w' = w ∧ k ≤ l.length ∧ (x ∈ l ↔ x ∈ l.drop k)) (fun k => l.length - k) (by rfl) 0 ⟨rfl, trivial⟩ ⟨rfl, Nat.zero_le _, by simp⟩ ?_
  rintro k g w' ⟨rfl, hk, hm⟩
  refine W_seq <| W_seq <| W_region (by rfl) ?_
  refine Lg.x r_move <| Lg.x r_move <| Lg.x (r_lenA h rfl) <| Lg.x (r_lss rfl rfl) <| xe ?_
  refine W_ifn rfl (fun h9 => ?_) (fun h9 => ?_)
  · refine W_exit ?_
    refine W_seq <| W_region (by rfl) ?_
    refine Lg.x r_assign <| xe ?_
    refine W_ret ⟨[.bool false], ⟨rfl, trivial⟩, ?_, rfl⟩
    rw [List.drop_of_length_le (by omega)] at hm
    simp [tup, hm]
  have hlt : k < l.length := by omega
  have hd := drop_cons hlt
  refine W_skip ?_
  refine W_seq <| W_block <| W_seq <| W_region (by rfl) ?_
  refine Lg.x r_move <| Lg.x r_move <| xii h rfl rfl hlt fun a14 h14 => Lg.x (r_loadA h14 rfl) <| Lg.x r_move <| Lg.x (r_eql rfl rfl) <| xe ?_
  refine W_if rfl (fun h17 => ?_) (fun h17 => ?_)
  · refine W_seq <| W_region (by rfl) ?_
    refine Lg.x r_assign <| xe ?_
    refine W_ret ⟨[.bool true], ⟨rfl, trivial⟩, ?_, rfl⟩
    have : x ∈ l := by rw [hm, hd, h17]; exact List.mem_cons_self
    simp [tup, this]
  refine W_skip ?_
  refine W_region (by rfl) ?_
  refine Lg.x r_move <| Lg.x (r_add rfl rfl ⟨by omega, by omega⟩) <| Lg.x r_assign <| xe ?_
  refine ⟨k + 1, by omega, ⟨rfl, trivial⟩, rfl, by omega, ?_⟩
  rw [hm, hd, List.mem_cons]
  exact ⟨fun h => h.resolve_left (fun e => h17 e.symm), .inr⟩

theorem stepR_ok {L : List Nat} {w : World} {va vm ve : Value} {a : Aut} (h : Eds L w.heap ve a.ed) (s e : Int) (st : Int) :
    Ret Tryz.prog 83 [.agg #[va, .int .i64 st, vm, ve], .int .i64 s, .int .i64 e] w fun r w' => r = .int .i64 (nxt a.ed s e) ∧ Step [] w w' := by
  have hle := h.le
  refine Ret.of_W Tryz.func83 rfl Tryz.ntmps83 Tryz.results83 (by simp) ?_
  refine W_seq <| W_region (by rfl) ?_
  refine xl rfl <| o_box (us := [va, .int .i64 st, vm, ve]) rfl fun b3 w1 hs1 hb3 hB3 => Lg.x r_assign <| xe ?_
  replace h := h.ext hs1
  refine W_seq <| W_seq <| W_region (by rfl) ?_
  refine Lg.x r_assign <| xe ?_
  refine W_block <| W_loop (α := Nat) [(6, 38)] (fun k => [(7, .int .i64 k)]) (fun k w' => w' = w1 ∧ k ≤ a.ed.length ∧ nxt (a.ed.drop k) s e = nxt a.ed s e) (fun k => a.ed.length - k) (by rfl) 0 ⟨rfl, trivial⟩ ⟨rfl, Nat.zero_le _, rfl⟩ ?_
  rintro k g w2 ⟨rfl, hk, hn⟩
  refine W_seq <| W_seq <| W_region (by rfl) ?_
  refine Lg.x r_move <| Lg.x (r_fieldB rfl) <| Lg.x (r_loadB hB3 rfl rfl) <| Lg.x (r_lenA h rfl) <| Lg.x (r_lss rfl rfl) <| xe ?_
  refine W_ifn rfl (fun h12 => ?_) (fun h12 => ?_)
  · refine W_exit ?_
    refine W_seq <| W_region (by rfl) ?_
    refine Lg.x r_assign <| xe ?_
    refine W_ret ⟨[.int .i64 (-1)], ⟨rfl, trivial⟩, ?_, hs1⟩
    rw [List.drop_of_length_le (by omega)] at hn
    rw [← hn]; rfl
  have hlt : k < a.ed.length := by omega
  have hd := drop_cons hlt
  refine W_skip ?_
  refine W_seq <| W_block <| W_cut (α := Bool) [(15, 32)] (fun z => [(32, .bool z)]) (fun z w' => w' = w2 ∧ z = decide (a.ed[k].1 = s ∧ a.ed[k].2.1 = e)) (by rfl) ?_ ?_
  · refine W_region (by rfl) ?_
    refine Lg.x (r_fieldB rfl) <| Lg.x (r_loadB hB3 rfl rfl) <| Lg.x r_move <| xie h rfl rfl hlt fun a18 h18 => Lg.x (r_field rfl) <| Lg.x (r_loadA (h18.fld 0 _ rfl) rfl) <|
      Lg.x r_move <| xb (r_eql rfl rfl) (fun h22 => ?_) (fun h22 => ?_)
    · refine Lg.x r_move <| Lg.x (r_fieldB rfl) <| Lg.x (r_loadB hB3 rfl rfl) <| Lg.x r_move <| xie h rfl rfl hlt fun a27 h27 => Lg.x (r_field rfl) <| Lg.x (r_loadA (h27.fld 1 _ rfl) rfl) <|
        Lg.x r_move <| Lg.x (r_eql rfl rfl) <| Lg.x (r_pick rfl) <| xe ?_
      exact ⟨_, ⟨rfl, trivial⟩, rfl, by simp [h22]⟩
    refine Lg.x r_move <| xs rfl <| xs rfl <| xs rfl <| xs rfl <| xs rfl <| xs rfl <| xs rfl <| xs rfl <| Lg.x (r_pick rfl) <| xe ?_
    exact ⟨_, ⟨rfl, trivial⟩, rfl, by simp [h22]⟩
  rintro z g w3 ⟨rfl, rfl⟩
  refine W_if rfl (fun h32 => ?_) (fun h32 => ?_)
  · refine W_seq <| W_region (by rfl) ?_
    refine Lg.x (r_fieldB rfl) <| Lg.x (r_loadB hB3 rfl rfl) <| Lg.x r_move <| xie h rfl rfl hlt fun a36 h36 => Lg.x (r_field rfl) <| Lg.x (r_loadA (h36.fld 2 _ rfl) rfl) <|
      Lg.x r_assign <| xe ?_
    refine W_ret ⟨[.int .i64 a.ed[k].2.2], ⟨rfl, trivial⟩, ?_, hs1⟩
    rw [← hn, hd, nxt, if_pos h32]; rfl
  refine W_skip ?_
  refine W_region (by rfl) ?_
  refine Lg.x r_move <| Lg.x (r_add rfl rfl ⟨by omega, by omega⟩) <| Lg.x r_assign <| xe ?_
  refine ⟨k + 1, by omega, ⟨rfl, trivial⟩, rfl, by omega, ?_⟩
  rw [← hn, hd, nxt, if_neg h32]

/-- index (ref 3): -1 if it is not there -/
def ixR (l : List Int) (n : Int) : Int := if n ∈ l then (l.idxOf n : Int) else -1
theorem ixR_drop {l : List Int} {n : Int} {k : Nat} (h : n ∉ l.take k) (hk : k < l.length) (he : cget l k = n) : ixR l n = k := by
  have hm : n ∈ l := by rw [← he, ← cget_eq hk]; exact List.getElem_mem hk
  unfold ixR
  rw [if_pos hm]
  have hs : l = l.take k ++ l.drop k := (List.take_append_drop k l).symm
  have : l.idxOf n = k := by
    rw [hs, List.idxOf_append, if_neg h, List.drop_eq_getElem_cons hk, List.idxOf_cons, show l[k] = n by rw [cget_eq hk]; exact he]
    simp; omega
  rw [this]
theorem indexR_ok {L : List Nat} {w : World} {v : Value} {l : List Int} (h : Ints L w.heap v l) (n : Int) :
    Ret Tryz.prog 84 [v, .int .i64 n] w fun r w' => r = .int .i64 (ixR l n) ∧ w' = w := by
  have hle := h.le
  refine Ret.of_W Tryz.func84 rfl Tryz.ntmps84 Tryz.results84 (by simp) ?_
  refine W_seq <| W_region (by rfl) ?_
  refine x r_assign <| xe ?_
  refine W_seq <| W_seq <| W_region (by rfl) ?_
  refine x r_assign <| xe ?_
  refine W_block <| W_loop (α := Nat) [(4, 18)] (fun z => [(5, .int .i64 z)]) (fun z w' => w' = w ∧ z ≤ l.length ∧ n ∉ l.take z) (fun z => l.length - z) (by rfl) 0 ⟨rfl, trivial⟩ ⟨rfl, Nat.zero_le _, by simp⟩ ?_
  rintro k g w1 ⟨rfl, hk, hm⟩
  refine W_seq <| W_seq <| W_region (by rfl) ?_
  refine x r_move <| x r_move <| x (r_lenA h rfl) <| x (r_lss rfl rfl) <| xe ?_
  refine W_ifn rfl (fun h9 => ?_) (fun h9 => ?_)
  · refine W_exit ?_
    refine W_seq <| W_region (by rfl) ?_
    refine x r_assign <| xe ?_
    rw [List.take_of_length_le (by omega)] at hm
    exact W_ret ⟨[.int .i64 (-1)], ⟨rfl, trivial⟩, by unfold ixR; rw [if_neg hm]; rfl, rfl⟩
  have hlt : k < l.length := by omega
  refine W_skip ?_
  refine W_seq <| W_block <| W_seq <| W_region (by rfl) ?_
  refine x r_move <| x r_move <| xic (i := k) h rfl rfl hlt fun a14 h14 => x (r_loadA h14 rfl) <| x r_move <| x (r_eql rfl rfl) <| xe ?_
  refine W_if rfl (fun h17 => ?_) (fun h17 => ?_)
  · refine W_seq <| W_region (by rfl) ?_
    refine x r_move <| x r_assign <| xe ?_
    exact W_ret ⟨[.int .i64 k], ⟨rfl, trivial⟩, by rw [ixR_drop hm hlt h17]; rfl, rfl⟩
  refine W_skip ?_
  refine W_region (by rfl) ?_
  refine x r_move <| x (r_add rfl rfl ⟨by omega, by omega⟩) <| x r_assign <| xe ?_
  refine ⟨k + 1, by omega, ⟨rfl, trivial⟩, rfl, hlt, ?_⟩
  rw [List.take_succ_eq_append_getElem hlt, cget_eq hlt]
  simp only [List.mem_append, List.mem_singleton, not_or]
  exact ⟨hm, fun e => h17 e.symm⟩

theorem emptyR_ok {L : List Nat} {w : World} {v : Value} {l : List Int} (h : Ints L w.heap v l) (hl : l.length ≤ 1000000) :
    Ret Tryz.prog 59 [v] w fun r w' => Step [] w w' ∧ ∃ va, r = .agg #[va, .int .i64 0, .slice none 0 0, .slice none 0 0] ∧ IntsO 3 w.heap.size w' va l := by
  refine Ret.of_W Tryz.func59 rfl Tryz.ntmps59 Tryz.results59 (by simp) ?_
  refine W_seq <| W_region (by rfl) ?_
  refine xl rfl <| o_alloc (us := [.slice none 0 0, .int .i64 0, .slice none 0 0, .slice none 0 0]) rfl fun b2 w1 hs1 hb2 hB2 => xe ?_
  have hz1 := hs1.size
  have hl2 := hB2.lt
  refine W_seq <| W_region (by rfl) ?_
  refine xl rfl <| o_lit0 fun b3 w2 hs2 hb3 hB3 => x r_move <| ?_
  have hs12 := hs1.trans hs2
  have hz2 := hs2.size
  have ho2 : w2.ownsRow w1.heap.size 3 1 (.slice (some ⟨b3, 0, none⟩) 0 0) 0 [] := hB3.own (n := 0) (sz := 1) rfl (by omega) hb3
  refine xl rfl <| o_appV ho2 rfl (h.ext hs12) rfl (one_ints l) (by omega) (by omega) fun va w3 ho3 hs3 hn3 => ?_
  have ho3' : IntsO 3 w1.heap.size w3 va l := by
    have : w3.ownsRow w1.heap.size 3 1 va (0 + l.length) ([] ++ l.map (.int .i64)) := ho3
    rw [Nat.zero_add, List.nil_append] at this; exact this
  have hA := IntsO.ints (L := []) ho3' (by omega) (by simp)
  have hB23 := (hB2.ext hs2).step hs3 (own_notin ho2 hl2)
  have hW3 : Step [] w w3 := hs12.then hs3 (fun b hb => .inr (by have := (own_ge ho2 b hb).1; omega))
  refine x (r_build ⟨hA.cells, trivial⟩) <| xl rfl <| o_stores (us := [va, .int .i64 0, .slice none 0 0, .slice none 0 0]) hB23 rfl rfl rfl rfl ⟨hA.one, rfl, rfl, rfl, trivial⟩ fun w4 hs4 hB4 => xe ?_
  have ho4 := own_step ho3' hs4 (fun b hb => by have := (own_ge ho3' b hb).1; simp; omega)
  exact W_ret ⟨[.agg #[va, .int .i64 0, .slice none 0 0, .slice none 0 0]], ⟨⟨_, rfl, run_loadVar_ag rfl (hB4.at (L := []) (by simp)).cells⟩, trivial⟩, hW3.then1 hs4 hb2, va, rfl, own_base ho4 hz1⟩
end Go.Proofs.YtfhgnlkdcdlblaaGreatDoor

/- What overseerref03's Found and Canonical compute, as plain functions. -/
namespace Go.Proofs.YtfhgnlkdcdlblaaGreatDoor
open Go.Lg

theorem pig : ∀ (n : Nat) (l : List Int), l.Nodup → (∀ x ∈ l, 0 ≤ x ∧ x < n) → l.length ≤ n
  | 0, l, _, h => by
    cases l with
    | nil => simp
    | cons a l => have := h a List.mem_cons_self; omega
  | n + 1, l, hd, h => by
    by_cases hm : (n : Int) ∈ l
    · have h1 := pig n (l.erase (n : Int)) (hd.erase _) (fun x hx => by
        have h2 := (List.Nodup.mem_erase_iff hd).1 hx
        have h3 := h x h2.2
        have h4 : x ≠ (n : Int) := h2.1
        omega)
      rw [List.length_erase_of_mem hm] at h1
      omega
    · have := pig n l hd (fun x hx => by
        have h3 := h x hx
        have h4 : x ≠ (n : Int) := fun e => hm (by rw [← e]; exact hx)
        omega)
      omega
def fdE (a : Aut) (s : Int) (out : List Int) (v : Int) : List Int := if 0 ≤ nxt a.ed s v ∧ nxt a.ed s v ∉ out then out ++ [nxt a.ed s v] else out
def fdR (a : Aut) (out : List Int) (s : Int) : List Int := a.al.foldl (fdE a s) out
def fdL (a : Aut) : Nat → Nat → List Int → List Int
  | 0, _, out => out
  | f + 1, i, out => if i < out.length then fdL a f (i + 1) (fdR a out (cget out i)) else out
def fd0 (a : Aut) : List Int := if 0 < a.st then [0] else []
def found (a : Aut) : List Int := fdL a a.st.toNat 0 (fd0 a)
/-- What holds of the states found. -/
structure FdOk (a : Aut) (out : List Int) : Prop where
  b : ∀ x ∈ out, 0 ≤ x ∧ x < a.st
  d : out.Nodup
theorem FdOk.len {a : Aut} {out : List Int} (h : FdOk a out) (h0 : 0 ≤ a.st) : out.length ≤ a.st.toNat := pig _ _ h.d (fun x hx => by have := h.b x hx; omega)
theorem nxt_mem {es : List Ed} {s v : Int} (h : 0 ≤ nxt es s v) : (s, v, nxt es s v) ∈ es := by
  induction es with
  | nil => simp [nxt] at h
  | cons e es ih =>
    rw [nxt] at h ⊢
    split at h
    · rename_i he
      rw [if_pos he]
      obtain ⟨p, q, r⟩ := e
      obtain ⟨h1, h2⟩ := he
      simp only [] at h1 h2
      subst h1 h2
      exact List.mem_cons_self
    · rename_i he
      rw [if_neg he]
      exact List.mem_cons_of_mem _ (ih h)
theorem fdE_ok {a : Aut} (ho : Okay a) {out : List Int} (h : FdOk a out) (s v : Int) : FdOk a (fdE a s out v) := by
  unfold fdE
  split
  · rename_i hc
    have hm := ho.ed _ (nxt_mem hc.1)
    refine ⟨fun x hx => ?_, ?_⟩
    · rcases List.mem_append.1 hx with hx | hx
      · exact h.b x hx
      · simp only [List.mem_singleton] at hx; subst hx; exact ⟨hc.1, hm.2.2.2.2⟩
    · rw [List.nodup_append]
      refine ⟨h.d, by simp, fun x hx y hy => ?_⟩
      simp only [List.mem_singleton] at hy
      subst hy
      exact fun e => hc.2 (by rw [← e]; exact hx)
  · exact h
theorem fdE_sub {a : Aut} {out : List Int} {s v : Int} : ∀ x ∈ out, x ∈ fdE a s out v := fun x hx => by unfold fdE; split; exact List.mem_append_left _ hx; exact hx
theorem fdE_in {a : Aut} {out : List Int} {s v : Int} (h : 0 ≤ nxt a.ed s v) : nxt a.ed s v ∈ fdE a s out v := by
  unfold fdE
  by_cases hm : nxt a.ed s v ∈ out
  · rw [if_neg (fun e => e.2 hm)]; exact hm
  · rw [if_pos ⟨h, hm⟩]; simp
theorem fdF_ok {a : Aut} (ho : Okay a) (s : Int) : ∀ (vs : List Int) (out : List Int), FdOk a out → FdOk a (vs.foldl (fdE a s) out)
  | [], _, h => h
  | v :: vs, _, h => fdF_ok ho s vs _ (fdE_ok ho h s v)
theorem fdF_sub {a : Aut} {s : Int} : ∀ (vs : List Int) (out : List Int), ∀ x ∈ out, x ∈ vs.foldl (fdE a s) out
  | [], _, _, hx => hx
  | _ :: vs, _, x, hx => fdF_sub vs _ x (fdE_sub x hx)
theorem fdF_in {a : Aut} {s : Int} : ∀ (vs : List Int) (out : List Int), ∀ v ∈ vs, 0 ≤ nxt a.ed s v → nxt a.ed s v ∈ vs.foldl (fdE a s) out
  | v :: vs, out, u, hu, h => by
    rcases List.mem_cons.1 hu with rfl | hu
    · exact fdF_sub vs _ _ (fdE_in h)
    · exact fdF_in vs _ u hu h
theorem fdF_pre {a : Aut} {s : Int} : ∀ (vs : List Int) (out : List Int), ∃ r, vs.foldl (fdE a s) out = out ++ r
  | [], out => ⟨[], by simp⟩
  | v :: vs, out => by
    obtain ⟨r, hr⟩ := fdF_pre (a := a) (s := s) vs (fdE a s out v)
    rw [List.foldl_cons, hr]
    unfold fdE
    split
    · exact ⟨[nxt a.ed s v] ++ r, by simp⟩
    · exact ⟨r, rfl⟩
theorem cget_pre {l r : List Int} {i : Nat} (h : i < l.length) : cget (l ++ r) i = cget l i := by
  rw [← cget_eq h, ← cget_eq (by simp; omega), List.getElem_append_left h]
/-- The states up to i have their steps. -/
def Cl (a : Aut) (out : List Int) (i : Nat) : Prop := ∀ j, j < i → j < out.length → ∀ v ∈ a.al, 0 ≤ nxt a.ed (cget out j) v → nxt a.ed (cget out j) v ∈ out
theorem Cl.next {a : Aut} {out : List Int} {i : Nat} (h : Cl a out i) (hi : i < out.length) : Cl a (fdR a out (cget out i)) (i + 1) := by
  intro j hj hjl v hv hn
  obtain ⟨r, hr⟩ := fdF_pre (a := a) (s := cget out i) a.al out
  have hr' : fdR a out (cget out i) = out ++ r := hr
  have hjo : j < out.length := by omega
  rw [hr', cget_pre hjo] at hn ⊢
  by_cases e : j = i
  · subst e
    have := fdF_in a.al out v hv hn
    rw [← hr']; exact this
  · exact List.mem_append_left _ (h j (by omega) hjo v hv hn)
theorem fdL_ok {a : Aut} (ho : Okay a) : ∀ (f i : Nat) (out : List Int), FdOk a out → Cl a out i → i + f = a.st.toNat → FdOk a (fdL a f i out) ∧ Cl a (fdL a f i out) (fdL a f i out).length
  | 0, i, out, h, hc, hf => by
    have := h.len ho.st0
    exact ⟨h, fun j hj hjl => hc j (by rw [fdL] at hj; omega) hjl⟩
  | f + 1, i, out, h, hc, hf => by
    rw [fdL]
    split
    · rename_i hi
      exact fdL_ok ho f (i + 1) _ (fdF_ok ho _ _ _ h) (hc.next hi) (by omega)
    · rename_i hi
      exact ⟨h, fun j hj hjl => hc j (by omega) hjl⟩
theorem fd0_ok (a : Aut) : FdOk a (fd0 a) := by
  unfold fd0
  split
  · rename_i h
    exact ⟨fun x hx => by simp only [List.mem_singleton] at hx; subst hx; exact ⟨by omega, h⟩, by simp⟩
  · exact ⟨by simp, by simp⟩
theorem found_ok {a : Aut} (ho : Okay a) : FdOk a (found a) ∧ ∀ s ∈ found a, ∀ v ∈ a.al, 0 ≤ nxt a.ed s v → nxt a.ed s v ∈ found a := by
  obtain ⟨h1, h2⟩ := fdL_ok ho a.st.toNat 0 (fd0 a) (fd0_ok a) (fun j hj => by omega) (by omega)
  refine ⟨h1, fun s hs v hv hn => ?_⟩
  obtain ⟨j, hj, rfl⟩ := List.getElem_of_mem hs
  have := h2 j hj hj v hv
  unfold found at hj hn ⊢
  rw [cget_eq hj] at hn ⊢
  exact this hn
/-! ### The canonical form -/
def canF (a : Aut) (fd : List Int) (i : Nat) (v : Int) : Option Ed := if 0 ≤ nxt a.ed (cget fd i) v then some ((i : Int), v, ixR fd (nxt a.ed (cget fd i) v)) else none
def canM (a : Aut) (fd : List Int) (n : Nat) : List Int := ((List.range' 0 n).filter fun i => decide (cget fd i ∈ a.mr)).map fun i : Nat => (i : Int)
def canE (a : Aut) (fd : List Int) (n : Nat) : List Ed := (List.range' 0 n).flatMap fun i => a.al.filterMap (canF a fd i)
def canR (a : Aut) : Aut := ⟨a.al, (found a).length, canM a (found a) (found a).length, canE a (found a) (found a).length⟩
theorem pw_filterMap {β : Type} {r : Int → Int → Prop} {q : β → β → Prop} {g : Int → Option β} (hg : ∀ x y u v, r x y → g x = some u → g y = some v → q u v) : ∀ {l : List Int}, l.Pairwise r → (l.filterMap g).Pairwise q
  | [], _ => by simp
  | x :: l, h => by
    obtain ⟨h1, h2⟩ := List.pairwise_cons.1 h
    rw [List.filterMap_cons]
    split
    · exact pw_filterMap hg h2
    · rename_i u hu
      refine List.pairwise_cons.2 ⟨fun v hv => ?_, pw_filterMap hg h2⟩
      obtain ⟨y, hy, hyv⟩ := List.mem_filterMap.1 hv
      exact hg x y u v (h1 y hy) hu hyv
theorem canR_ok {a : Aut} (ho : Okay a) : Okay (canR a) ∧ (canR a).al = a.al ∧ (canR a).st ≤ a.st := by
  obtain ⟨h1, h2⟩ := found_ok ho
  have hl := h1.len ho.st0
  have h0 := ho.st0
  have h4 := ho.st1
  refine ⟨⟨ho.al, ho.ali, by simp [canR], by simp only [canR]; omega, fun s hs => ?_, ?_, fun e he => ?_, ?_⟩, rfl, by simp only [canR]; omega⟩
  · simp only [canR, canM, List.mem_map, List.mem_filter, List.mem_range'_1] at hs
    obtain ⟨i, ⟨hi, _⟩, rfl⟩ := hs
    simp only [canR]; omega
  · simp only [canR, canM]
    unfold Inc
    rw [List.pairwise_map]
    refine List.Pairwise.sublist List.filter_sublist ?_
    exact (List.pairwise_lt_range' (s := 0) (n := (found a).length)).imp (fun h => by omega)
  · simp only [canR, canE, List.mem_flatMap, List.mem_filterMap, List.mem_range'_1] at he
    obtain ⟨i, ⟨_, hi⟩, v, hv, hf⟩ := he
    unfold canF at hf
    split at hf
    · rename_i hn
      cases hf
      have hi' : i < (found a).length := by omega
      have hm := h2 (cget (found a) i) (by rw [← cget_eq hi']; exact List.getElem_mem hi') v hv hn
      have hx := List.idxOf_lt_length_of_mem hm
      simp only [canR]
      unfold ixR
      rw [if_pos hm]
      exact ⟨by omega, by omega, hv, by omega, by omega⟩
    · cases hf
  · simp only [canR, canE]
    have key : ∀ (is : List Nat), is.Pairwise (· < ·) → (is.flatMap fun i => a.al.filterMap (canF a (found a) i)).Pairwise fun x y : Ed => x.1 < y.1 ∨ (x.1 = y.1 ∧ x.2.1 < y.2.1) := by
      intro is
      induction is with
      | nil => intro _; simp
      | cons i is ih =>
        intro hp
        obtain ⟨p1, p2⟩ := List.pairwise_cons.1 hp
        rw [List.flatMap_cons, List.pairwise_append]
        have from_i : ∀ (i : Nat) (e : Ed), e ∈ a.al.filterMap (canF a (found a) i) → e.1 = i := by
          intro i e he
          obtain ⟨v, _, hf⟩ := List.mem_filterMap.1 he
          unfold canF at hf
          split at hf
          · cases hf; rfl
          · cases hf
        refine ⟨?_, ih p2, fun e he e' he' => ?_⟩
        · refine pw_filterMap (r := (· < ·)) (fun x y u v hxy hu hv => ?_) ho.ali
          unfold canF at hu hv
          split at hu
          · cases hu
            split at hv
            · cases hv
              exact .inr ⟨rfl, hxy⟩
            · cases hv
          · cases hu
        · obtain ⟨j, hj, he2⟩ := List.mem_flatMap.1 he'
          have e1 := from_i i e he
          have e2 := from_i j e' he2
          have := p1 j hj
          left; omega
    exact key _ (List.pairwise_lt_range' (s := 0) (n := (found a).length))
end Go.Proofs.YtfhgnlkdcdlblaaGreatDoor

/- Contract: overseerref03's Found. -/
namespace Go.Proofs.YtfhgnlkdcdlblaaGreatDoor
open Go.Lg

set_option maxHeartbeats 1000000 in
theorem foundR_ok {L : List Nat} {w : World} {va vm ve : Value} {a : Aut} (h : AutA L w.heap va vm ve a) (ho : Okay a) :
    Ret Tryz.prog 81 [.agg #[va, .int .i64 a.st, vm, ve]] w fun r w' => Step [] w w' ∧ IntsO 3 w.heap.size w' r (found a) := by
  have h0 := ho.st0
  have h1 := ho.st1
  have hal := ho.al_le
  refine Ret.of_W Tryz.func81 rfl Tryz.ntmps81 Tryz.results81 (by simp) ?_
  refine W_seq <| W_region (by rfl) ?_
  refine xl rfl <| o_box (us := [va, .int .i64 a.st, vm, ve]) rfl fun b1 w1 hs1 hb1 hB1 => x r_assign <| xe ?_
  refine W_seq <| W_region (by rfl) ?_
  refine x r_assign <| xe ?_
  have hz1 := hs1.size
  have hl1 := hB1.lt
  refine W_cut (α := Value) [(3, 3), (7, 12)] (fun z => [(3, z)]) (fun z w' => Step [] w1 w' ∧ IntsO 3 w1.heap.size w' z (fd0 a)) (by rfl) ?_ ?_
  · refine W_seq <| W_region (by rfl) ?_
    refine x (r_fieldB rfl) <| x (r_loadB hB1 rfl rfl) <| x (r_gtr rfl rfl) <| xe ?_
    refine W_ifn rfl (fun h9 => ?_) (fun h9 => ?_)
    · refine W_skip ?_
      exact ⟨.slice none 0 0, ⟨rfl, trivial⟩, Step.refl _ _, by unfold fd0; rw [if_neg h9]; exact own_nil _ _ _ _⟩
    refine W_region (by rfl) ?_
    refine x r_move <| xl rfl <| o_lits (us := [[.int .i64 0]]) rfl rfl (by decide) (by simp) ⟨rfl, rfl, trivial⟩ fun b11 w2 hs2 hb11 hB11 => ?_
    have hn : w2.ownsRow w1.heap.size 3 1 (.slice none 0 0) 0 [] := own_nil _ _ _ _
    have hz2 := hs2.size
    refine xl rfl <| o_app (news := [.int .i64 0]) (L := []) hn rfl rfl rfl (hB11.at (by simp)) (by simp [Value.oneCell']) (by omega) (by omega) fun v3 w3 ho3 hs3 hn3 =>
      x r_assign <| xe ?_
    refine ⟨v3, ⟨rfl, trivial⟩, hs2.then hs3 (fun b hb => by simp [ob] at hb), ?_⟩
    unfold fd0
    rw [if_pos h9]; exact ho3
  rintro v0 g4 w4 ⟨hs4, ho4⟩
  have hW4 := hs1.trans hs4
  have hz4 := hs4.size
  refine exE (found a) fun T hT => ?_
  have hT' : fdL a a.st.toNat 0 (fd0 a) = T := hT
  refine W_seq <| W_seq <| W_region (by rfl) ?_
  refine x r_assign <| xe ?_
  refine W_block <| W_loop (α := Nat × List Int × Value) [(3, 6), (13, 48)] (fun z => [(3, z.2.2), (4, .int .i64 z.1)])
    (fun z w' => Step [] w1 w' ∧ IntsO 3 w1.heap.size w' z.2.2 z.2.1 ∧ FdOk a z.2.1 ∧ z.1 ≤ z.2.1.length ∧ fdL a (a.st.toNat - z.1) z.1 z.2.1 = T) (fun z => a.st.toNat - z.1) (by rfl) (0, fd0 a, v0) ⟨rfl, rfl, trivial⟩
    ⟨hs4, ho4, fd0_ok a, Nat.zero_le _, hT'⟩ ?_
  rintro ⟨i, out, v⟩ g5 w5 ⟨hs5, ho5, hfd, hi, hr5⟩
  simp only [] at ho5 hfd hi hr5
  have hlen := hfd.len h0
  have hI5 := IntsO.ints (L := []) ho5 (by omega) (by simp)
  refine W_seq <| W_seq <| W_region (by rfl) ?_
  refine x r_move <| x r_move <| x (r_lenA hI5 rfl) <| x (r_lss rfl rfl) <| xe ?_
  refine W_ifn rfl (fun h16 => ?_) (fun h16 => ?_)
  · have e : out = T := by
      rw [← hr5]
      generalize a.st.toNat - i = f
      cases f with
      | zero => rfl
      | succ f => rw [fdL, if_neg (by omega)]
    refine W_exit ?_
    refine W_seq <| W_region (by rfl) ?_
    refine x r_move <| x r_assign <| xe ?_
    rw [e] at ho5
    exact W_ret ⟨[v], ⟨rfl, trivial⟩, hs1.trans hs5, by rw [hT]; exact own_base ho5 hz1⟩
  have hlt : i < out.length := by omega
  have hfu : a.st.toNat - i = (a.st.toNat - (i + 1)) + 1 := by omega
  rw [hfu, fdL, if_pos hlt] at hr5
  refine exE (cget out i) fun s hse => ?_
  rw [hse] at hr5
  refine exE (fdR a out s) fun R hR => ?_
  rw [hR] at hr5
  unfold fdR at hR
  refine W_skip ?_
  refine W_seq <| W_block <| W_seq <| W_region (by rfl) ?_
  refine x r_assign <| xe ?_
  refine W_block <| W_loop (α := Nat × List Int × Value) [(3, 3), (5, 6), (19, 48)] (fun z => [(3, z.2.2), (5, .int .i64 z.1)])
    (fun z w' => Step [] w1 w' ∧ IntsO 3 w1.heap.size w' z.2.2 z.2.1 ∧ FdOk a z.2.1 ∧ z.1 ≤ a.al.length ∧ i < z.2.1.length ∧ cget z.2.1 i = s ∧ (a.al.drop z.1).foldl (fdE a s) z.2.1 = R) (fun z => a.al.length - z.1) (by rfl) (0, out, v) ⟨rfl, rfl, trivial⟩
    ⟨hs5, ho5, hfd, Nat.zero_le _, hlt, hse, hR⟩ ?_
  clear hs5 ho5 hfd hi hlen hI5 hlt hse hR h16
  rintro ⟨k, out, v⟩ g6 w6 ⟨hs6, ho6, hfd, hk, hlt, hse, hr6⟩
  simp only [] at ho6 hfd hk hlt hse hr6
  have hlen := hfd.len h0
  have hal6 := (h.al.ext hs1).ext hs6
  have hB16 := hB1.ext hs6
  have hI6 := IntsO.ints (L := []) ho6 (by omega) (by simp)
  refine W_seq <| W_seq <| W_region (by rfl) ?_
  refine x r_move <| x (r_fieldB rfl) <| x (r_loadB hB16 rfl rfl) <| x (r_lenA hal6 rfl) <| x (r_lss rfl rfl) <| xe ?_
  refine W_ifn rfl (fun h23 => ?_) (fun h23 => ?_)
  · refine W_exit ?_
    refine W_region (by rfl) ?_
    refine x r_move <| x (r_add rfl rfl ⟨by omega, by omega⟩) <| x r_assign <| xe ?_
    rw [List.drop_of_length_le (by omega)] at hr6
    have hr6' : out = R := hr6
    exact ⟨(i + 1, out, v), by simp only []; omega, ⟨rfl, rfl, trivial⟩, hs6, ho6, hfd, hlt, by simp only []; rw [hr6']; exact hr5⟩
  have hltk : k < a.al.length := by omega
  rw [List.drop_eq_getElem_cons hltk, List.foldl_cons, cget_eq hltk] at hr6
  refine exE (cget a.al k) fun u hu => ?_
  rw [hu] at hr6
  have hed6 := (h.ed.ext hs1).ext hs6
  refine exE (nxt a.ed s u) fun t ht => ?_
  have hfe : fdE a s out u = if 0 ≤ t ∧ t ∉ out then out ++ [t] else out := by unfold fdE; rw [ht]
  have hok' := fdE_ok ho hfd s u
  rw [hfe] at hr6 hok'
  refine W_skip ?_
  refine W_seq <| W_block <| W_seq <| W_draw (Step [] w6) [(0, true), (1, true), (2, true), (3, true), (4, true), (5, true), (6, true), (7, true), (8, true), (9, true), (10, false), (11, true)] Tryz.mixed (by rfl) (by kernel_rfl) (Step.drew _ _) ?_
  refine pq (fun _ hc => r_loadsB (hB16.ext hc) rfl rfl) <| p (fun _ => r_move) <| p (fun _ => r_move) <| pic (i := i) rfl hI6 rfl rfl hlt fun a29 h29 => ?_
  rw [hse] at h29
  refine pq (fun _ hc => r_loadA (h29.ext hc) rfl) <| p (fun _ => r_fieldB rfl) <| pq (fun _ hc => r_loadB (hB16.ext hc) rfl rfl) <| p (fun _ => r_move) <|
    pic (i := k) rfl hal6 rfl rfl hltk fun a34 h34 => ?_
  rw [hu] at h34
  have hsr := stepR_ok (va := va) (vm := vm) (a := a) (hed6.ext (Step.drew [] w6)) s u a.st
  rw [ht] at hsr
  refine pq (fun _ hc => r_loadA (h34.ext hc) rfl) <| pk <| xf <| hsr.mono ?_
  rintro r7 w7 ⟨rfl, hs7⟩
  have hs67 := (Step.drew [] w6).trans hs7
  refine ⟨hs67, p (fun _ => r_assign) <| pe ?_⟩
  have ho7 := own_ext ho6 hs67
  have hI7 := hI6.ext hs67
  refine W_cut (α := Unit) [(37, 44)] (fun z => [(44, .bool (decide (0 ≤ t ∧ t ∉ out)))]) (fun z w' => w' = w7) (by rfl) ?_ ?_
  · refine W_region (by rfl) ?_
    refine x r_move <| xb (r_geq rfl rfl) (fun h38 => ?_) (fun h38 => ?_)
    · refine x r_move <| x r_move <| x r_move <| xl rfl <| xf <| (hasR_ok hI7 t).mono ?_
      rintro r8 w8 ⟨rfl, rfl⟩
      refine x (r_not rfl) <| x (r_pick rfl) <| xe ?_
      refine ⟨(), ⟨congrArg Value.bool ?_, trivial⟩, rfl⟩
      show (!decide (t ∈ out)) = _
      rw [Bool.eq_iff_iff]; simp [h38]
    refine x r_move <| xs rfl <| xs rfl <| xs rfl <| xs rfl <| x (r_pick rfl) <| xe ?_
    exact ⟨(), ⟨congrArg Value.bool (decide_eq_false (fun e => h38 e.1)).symm, trivial⟩, rfl⟩
  rintro _ g9 w9 rfl
  refine W_ifn rfl (fun h44 => ?_) (fun h44 => ?_)
  · rw [if_neg h44] at hr6
    refine W_skip ?_
    refine W_region (by rfl) ?_
    refine x r_move <| x (r_add rfl rfl ⟨by omega, by omega⟩) <| x r_assign <| xe ?_
    exact ⟨(k + 1, out, v), by simp only []; omega, ⟨rfl, rfl, trivial⟩, hs6.trans hs67, ho7, hfd, hltk, hlt, hse, hr6⟩
  rw [if_pos h44] at hr6 hok'
  have hs17 := hs6.trans hs67
  have hz7 := hs17.size
  refine W_region (by rfl) ?_
  refine x r_move <| x r_move <| xl rfl <| o_lits (us := [[.int .i64 t]]) rfl rfl (by decide) (by simp) ⟨rfl, rfl, trivial⟩ fun b47 w10 hs10 hb47 hB47 => ?_
  have ho10 := own_ext ho7 hs10
  have hz10 := hs10.size
  refine xl rfl <| o_app (news := [.int .i64 t]) (L := []) ho10 rfl rfl rfl (hB47.at (by simp)) (by simp [Value.oneCell']) (by omega) (by omega) fun v11 w11 ho11 hs11 hn11 =>
    x r_assign <| xe ?_
  have hge := own_ge ho6
  refine W_region (by rfl) ?_
  refine x r_move <| x (r_add rfl rfl ⟨by omega, by omega⟩) <| x r_assign <| xe ?_
  refine ⟨(k + 1, out ++ [t], v11), by simp only []; omega, ⟨rfl, rfl, trivial⟩, (hs17.trans hs10).then hs11 (fun b hb => .inr (hge b hb).1), IntsO.snoc ho11, hok', hltk, by simp; omega, ?_, hr6⟩
  simp only []
  rw [cget_pre hlt]; exact hse
end Go.Proofs.YtfhgnlkdcdlblaaGreatDoor

/- Contract: overseerref03's Canonical. -/
namespace Go.Proofs.YtfhgnlkdcdlblaaGreatDoor
open Go.Lg

/-- What the loops hold. -/
structure CrI (w7 : World) (b4 : Nat) (vcl : Value) (n : Int) (vm vd : Value) (M : List Int) (E : List Ed) (w : World) : Prop where
  st : Step [b4] w7 w
  B : Blk w.heap b4 35 [vcl, .int .i64 n, vm, vd]
  m : IntsO 3 w7.heap.size w vm M
  e : EdsO 85 w7.heap.size w vd E
  dj : Dj vm vd
section
variable {w7 w w' w'' : World} {b4 : Nat} {vcl : Value} {n : Int} {vm vd : Value} {M : List Int} {E : List Ed}
theorem CrI.ext (h : CrI w7 b4 vcl n vm vd M E w) (hs : Step [] w w') : CrI w7 b4 vcl n vm vd M E w' := ⟨h.st.trans hs, h.B.ext hs, own_ext h.m hs, own_ext h.e hs, h.dj⟩
theorem CrI.setM (h : CrI w7 b4 vcl n vm vd M E w) (hb : b4 < w7.heap.size) {vm' : Value} {M' : List Int} (hs : Step (ob vm) w w') (hm : IntsO 3 w7.heap.size w' vm' M') (hn : ∀ b ∈ ob vm', b ∈ ob vm ∨ w.heap.size ≤ b) (hs2 : Step [b4] w' w'')
    (hB : Blk w''.heap b4 35 [vcl, .int .i64 n, vm', vd]) : CrI w7 b4 vcl n vm' vd M' E w'' :=
  ⟨(h.st.then hs (fun b hb => .inr (own_ge h.m b hb).1)).trans' hs2, hB, own_step hm hs2 (fun b hb' => by have := (own_ge hm b hb').1; simp; omega),
    own_step (own_step h.e hs h.dj.symm) hs2 (fun b hb' => by have := (own_ge h.e b hb').1; simp; omega), (h.dj.symm.grow hn (own_lt h.e)).symm⟩
theorem CrI.setE (h : CrI w7 b4 vcl n vm vd M E w) (hb : b4 < w7.heap.size) {vd' : Value} {E' : List Ed} (hs : Step (ob vd) w w') (hm : EdsO 85 w7.heap.size w' vd' E') (hn : ∀ b ∈ ob vd', b ∈ ob vd ∨ w.heap.size ≤ b) (hs2 : Step [b4] w' w'')
    (hB : Blk w''.heap b4 35 [vcl, .int .i64 n, vm, vd']) : CrI w7 b4 vcl n vm vd' M E' w'' :=
  ⟨(h.st.then hs (fun b hb => .inr (own_ge h.e b hb).1)).trans' hs2, hB, own_step (own_step h.m hs h.dj) hs2 (fun b hb' => by have := (own_ge h.m b hb').1; simp; omega),
    own_step hm hs2 (fun b hb' => by have := (own_ge hm b hb').1; simp; omega), h.dj.grow hn (own_lt h.m)⟩
end
theorem canM_succ (a : Aut) (fd : List Int) (k : Nat) : canM a fd (k + 1) = if cget fd k ∈ a.mr then canM a fd k ++ [(k : Int)] else canM a fd k := by
  unfold canM
  rw [List.range'_1_concat, List.filter_append, List.map_append, Nat.zero_add]
  by_cases h : cget fd k ∈ a.mr
  · rw [if_pos h, List.filter_cons, if_pos (decide_eq_true h)]; rfl
  · rw [if_neg h, List.filter_cons, if_neg (by rw [decide_eq_false h]; simp), List.filter_nil, List.map_nil, List.append_nil]
theorem canM_len (a : Aut) (fd : List Int) : ∀ k, (canM a fd k).length ≤ k
  | 0 => by simp [canM]
  | k + 1 => by
    have := canM_len a fd k
    rw [canM_succ]
    split
    · simp; omega
    · omega
theorem canE_succ (a : Aut) (fd : List Int) (k : Nat) : canE a fd (k + 1) = canE a fd k ++ a.al.filterMap (canF a fd k) := by
  unfold canE
  rw [List.range'_1_concat, List.flatMap_append, Nat.zero_add]; simp

set_option maxHeartbeats 2000000 in
theorem canonicalR_ok {L : List Nat} {w : World} {va vm ve : Value} {a : Aut} (h : AutA L w.heap va vm ve a) (ho : Okay a) :
    Ret Tryz.prog 60 [.agg #[va, .int .i64 a.st, vm, ve]] w fun r w' => Step [] w w' ∧ AutF w.heap.size w'.heap r (canR a) := by
  have h0 := ho.st0
  have h1 := ho.st1
  have hal := ho.al_le
  have hfo := (found_ok ho).1
  have hfl := hfo.len h0
  refine Ret.of_W Tryz.func60 rfl Tryz.ntmps60 Tryz.results60 (by simp) ?_
  refine exE (found a) fun fd hfd => ?_
  rw [hfd] at hfl
  have hcan : canR a = ⟨a.al, fd.length, canM a fd fd.length, canE a fd fd.length⟩ := by unfold canR; rw [hfd]
  refine W_seq <| W_region (by rfl) ?_
  refine xl rfl <| o_box (us := [va, .int .i64 a.st, vm, ve]) rfl fun b1 w1 hs1 hb1 hB1 => xl rfl <| o_alloc (us := [.slice none 0 0, .int .i64 0, .slice none 0 0, .slice none 0 0]) rfl fun b2 w2 hs2 hb2 hB2 => xe ?_
  have hs12 := hs1.trans hs2
  have hfr := foundR_ok (h.ext hs12) ho
  rw [hfd] at hfr
  refine W_seq <| W_region (by rfl) ?_
  refine x (r_loadsB (hB1.ext hs2) rfl rfl) <| xl rfl <| xf <| hfr.mono ?_
  rintro vf w3 ⟨hs3, hof⟩
  refine x r_assign <| xe ?_
  have hs13 := hs12.trans hs3
  have hB13 := (hB1.ext hs2).ext hs3
  refine W_seq <| W_region (by rfl) ?_
  refine x (r_fieldB rfl) <| x (r_loadB hB13 rfl rfl) <| xl rfl <| xf <| (emptyR_ok (h.al.ext hs13) (by omega)).mono ?_
  rintro r4 w4 ⟨hs4, vcl, rfl, hcl⟩
  have hclA := IntsO.ints (L := []) hcl (by omega) (by simp)
  refine xl rfl <| o_alloc (us := [.slice none 0 0, .int .i64 0, .slice none 0 0, .slice none 0 0]) rfl fun b4 w5 hs5 hb4 hB4 =>
    xl rfl <| o_stores (us := [vcl, .int .i64 0, .slice none 0 0, .slice none 0 0]) hB4 rfl rfl rfl rfl ⟨hclA.one, rfl, rfl, rfl, trivial⟩ fun w6 hs6 hB6 => xe ?_
  have hs46 : Step [] w4 w6 := hs5.then1 hs6 hb4
  have hs36 := hs4.trans hs46
  have hfA3 := IntsO.ints (L := []) hof (by omega) (by simp)
  have hz1 := hs1.size
  have hz2 := hs2.size
  have hz3 := hs3.size
  have hz4 := hs4.size
  have hz46 := hs46.size
  have hl1 := hB1.lt
  have hl2 := hB2.lt
  have hl4 := hB6.lt
  refine W_seq <| W_region (by rfl) ?_
  refine x r_move <| x (r_lenA hfA3 rfl) <| x (r_fieldB rfl) <| xl rfl <| o_store (u := .int .i64 fd.length) hB6 rfl rfl (by simp) rfl fun w7 hs7 hB7 => xe ?_
  have hz7 := hs7.size
  have hs37 : Step [b4] w3 w7 := (hs36.any (L := [b4])).trans' hs7
  have hW7 : Step [] w w7 := (hs13.trans hs36).then1 hs7 (by omega)
  have hf7 : Ints [b4] w7.heap vf fd := ((hfA3.up (L' := [b4]) (fun b hb => .inr (by simp at hb; omega))).ext hs36).st hs7
  have ha7 : AutA [b4] w7.heap va vm ve a := (h.up (fun b hb => .inr (by simp at hb; omega))).ext hW7
  have hc7 : IntsO 3 w3.heap.size w7 vcl a.al := own_step (own_ext hcl hs46) hs7 (fun b hb => by have := own_lt hcl b hb; simp; omega)
  have hB17 := (hB13.ext hs36).step hs7 (by simp; omega)
  have hB27 := ((hB2.ext hs3).ext hs36).step hs7 (by simp; omega)
  have hl7 : b4 < w7.heap.size := by omega
  have n1 : b1 ∉ [b4] := by simp; omega
  have n2 : b2 ∉ [b4] := by simp; omega
  refine W_seq <| W_seq <| W_region (by rfl) ?_
  refine x r_assign <| xe ?_
  refine W_block <| W_loop (α := Nat × Value × Value) [(5, 7), (16, 69)] (fun z => [(5, .int .i64 z.1)])
    (fun z w' => z.1 ≤ fd.length ∧ CrI w7 b4 vcl fd.length z.2.1 z.2.2 (canM a fd z.1) (canE a fd z.1) w' ∧ (canE a fd z.1).length ≤ z.1 * 32) (fun z => fd.length - z.1) (by rfl) (0, .slice none 0 0, .slice none 0 0) ⟨rfl, trivial⟩
    ⟨Nat.zero_le _, ⟨Step.refl _ _, hB7, own_nil _ _ _ _, own_nil _ _ _ _, Dj.nil' _⟩, Nat.zero_le _⟩ ?_
  rintro ⟨i, v1, v2⟩ g8 w8 ⟨hi, hI, hel⟩
  simp only [] at hi hI hel
  have hml := canM_len a fd i
  have hf8 := hf7.st hI.st
  refine W_seq <| W_seq <| W_region (by rfl) ?_
  refine x r_move <| x r_move <| x (r_lenA hf8 rfl) <| x (r_lss rfl rfl) <| xe ?_
  refine W_ifn rfl (fun h19 => ?_) (fun h19 => ?_)
  · have hie : i = fd.length := by omega
    rw [hie] at hI hel hml
    refine W_exit ?_
    have hmA := IntsO.ints (L := []) hI.m (by omega) (by simp)
    have heA := EdsO.eds (L := []) hI.e (by omega) (by simp)
    refine W_seq <| W_region (by rfl) ?_
    refine x (r_loadsB hI.B rfl rfl) <| xl rfl <| o_stores (us := [vcl, .int .i64 fd.length, v1, v2]) (hB27.step hI.st n2) rfl rfl rfl rfl ⟨hclA.one, rfl, hmA.one, heA.one, trivial⟩ fun w9 hs9 hB9 => xe ?_
    refine W_ret ⟨[.agg #[vcl, .int .i64 fd.length, v1, v2]], ⟨⟨_, rfl, run_loadVar_ag rfl (hB9.at (L := []) (by simp)).cells⟩, trivial⟩, (hW7.then1 hI.st (by omega)).then1 hs9 (by omega), ?_⟩
    rw [hcan]
    have k1 := own_step (own_step hc7 hI.st (fun b hb => by have := own_lt hcl b hb; simp; omega)) hs9 (fun b hb => by have := (own_ge hcl b hb).1; simp; omega)
    have k2 := own_step hI.m hs9 (fun b hb => by have := (own_ge hI.m b hb).1; simp; omega)
    have k3 := own_step hI.e hs9 (fun b hb => by have := (own_ge hI.e b hb).1; simp; omega)
    refine ⟨vcl, v1, v2, rfl, fun L' hL' => ⟨?_, ?_, ?_⟩⟩
    · exact IntsO.ints k1 (by show a.al.length ≤ _; omega) (fun b hb => by have := hL' b hb; omega)
    · exact IntsO.ints k2 (by show (canM a fd fd.length).length ≤ _; omega) (fun b hb => by have := hL' b hb; omega)
    · exact EdsO.eds k3 (by show (canE a fd fd.length).length ≤ _; omega) (fun b hb => by have := hL' b hb; omega)
  have hlt : i < fd.length := by omega
  refine exE (cget fd i) fun s hse => ?_
  have hms := canM_succ a fd i
  rw [hse] at hms
  refine W_skip ?_
  refine W_seq <| W_block <| W_cut (α := Value) [(22, 34)] (fun z => []) (fun z w' => CrI w7 b4 vcl fd.length z v2 (canM a fd (i + 1)) (canE a fd i) w') (by rfl) ?_ ?_
  · have ha8 := ha7.st hI.st
    have hB18 := hB17.step hI.st n1
    refine W_seq <| W_draw (Step [] w8) [(0, true), (1, true), (2, true), (3, true), (4, true), (5, true), (6, false)] Tryz.mixed (by rfl) (by kernel_rfl) (Step.drew _ _) ?_
    refine p (fun _ => r_fieldB rfl) <| pq (fun _ hc => r_loadB (hB18.ext hc) rfl rfl) <| p (fun _ => r_move) <| p (fun _ => r_move) <| pic (i := i) rfl hf8 rfl rfl hlt fun a26 h26 => ?_
    rw [hse] at h26
    refine pq (fun _ hc => r_loadA (h26.ext hc) rfl) <| pk <| xf <| (hasR_ok (ha8.mr.ext (Step.drew [] w8)) s).mono ?_
    rintro r10 w10 ⟨rfl, rfl⟩
    have hI10 := hI.ext (Step.drew [] w8)
    refine ⟨Step.drew _ _, pe ?_⟩
    refine W_ifn rfl (fun h28 => ?_) (fun h28 => ?_)
    · rw [if_neg h28] at hms
      refine W_skip ?_
      exact ⟨v1, trivial, by rw [hms]; exact hI10⟩
    rw [if_pos h28] at hms
    refine W_region (by rfl) ?_
    refine x (r_fieldB rfl) <| x (r_loadB hI10.B rfl rfl) <| x r_move <| xl rfl <| o_lits (us := [[.int .i64 i]]) rfl rfl (by decide) (by simp) ⟨rfl, rfl, trivial⟩ fun b32 w11 hs11 hb32 hB32 => ?_
    have hI11 := hI10.ext hs11
    refine xl rfl <| o_app (news := [.int .i64 i]) (L := []) hI11.m rfl rfl rfl (hB32.at (by simp)) (by simp [Value.oneCell']) (by omega) hI11.st.size fun v12 w12 ho12 hs12 hn12 => ?_
    have ho12' : IntsO 3 w7.heap.size w12 v12 (canM a fd i ++ [(i : Int)]) := IntsO.snoc ho12
    refine x (r_fieldB rfl) <| xl rfl <| o_store (hI11.B.step hs12 (own_notin hI11.m hl7)) rfl rfl (by simp) (IntsO.ints (L := []) ho12' (by simp; omega) (by simp)).one fun w13 hs13' hB13' =>
      xe ?_
    exact ⟨v12, trivial, by rw [hms]; exact hI11.setM hl7 hs12 ho12' hn12 hs13' hB13'⟩
  rintro v3 g14 w14 hI14
  refine exE (canE a fd (i + 1)) fun E1 hE1 => ?_
  have hE1' := canE_succ a fd i
  rw [hE1] at hE1'
  refine W_seq <| W_region (by rfl) ?_
  refine x r_assign <| xe ?_
  refine W_block <| W_loop (α := Nat × List Ed × Value) [(6, 7), (35, 69)] (fun z => [(6, .int .i64 z.1)])
    (fun z w' => z.1 ≤ a.al.length ∧ CrI w7 b4 vcl fd.length v3 z.2.2 (canM a fd (i + 1)) z.2.1 w' ∧ z.2.1.length ≤ i * 32 + z.1 ∧ z.2.1 ++ (a.al.drop z.1).filterMap (canF a fd i) = E1) (fun z => a.al.length - z.1) (by rfl) (0, canE a fd i, v2) ⟨rfl, trivial⟩
    ⟨Nat.zero_le _, hI14, hel, hE1'.symm⟩ ?_
  rintro ⟨k, E, vd⟩ g15 w15 ⟨hk, hI15, hl15, hr15⟩
  simp only [] at hk hI15 hl15 hr15
  have ha15 := ha7.st hI15.st
  have hB115 := hB17.step hI15.st n1
  have hf15 := hf7.st hI15.st
  refine W_seq <| W_seq <| W_region (by rfl) ?_
  refine x r_move <| x (r_fieldB rfl) <| x (r_loadB hB115 rfl rfl) <| x (r_lenA ha15.al rfl) <| x (r_lss rfl rfl) <| xe ?_
  refine W_ifn rfl (fun h39 => ?_) (fun h39 => ?_)
  · refine W_exit ?_
    refine W_region (by rfl) ?_
    refine x r_move <| x (r_add rfl rfl ⟨by omega, by omega⟩) <| x r_assign <| xe ?_
    rw [List.drop_of_length_le (by omega), List.filterMap_nil, List.append_nil] at hr15
    refine ⟨(i + 1, v3, vd), by simp only []; omega, ⟨rfl, trivial⟩, hlt, ?_, ?_⟩
    · simp only []; rw [hE1, ← hr15]; exact hI15
    · simp only []; rw [hE1, ← hr15]; omega
  have hltk : k < a.al.length := by omega
  refine exE (cget a.al k) fun u hu => ?_
  rw [List.drop_eq_getElem_cons hltk, cget_eq hltk, hu, List.filterMap_cons] at hr15
  refine exE (nxt a.ed s u) fun t ht => ?_
  have hcf : canF a fd i u = if 0 ≤ t then some ((i : Int), u, ixR fd t) else none := by unfold canF; rw [hse, ht]
  rw [hcf] at hr15
  have hsr := stepR_ok (va := va) (vm := vm) (a := a) (ha15.ed.ext (Step.drew [] w15)) s u a.st
  rw [ht] at hsr
  refine W_skip ?_
  refine W_seq <| W_block <| W_seq <| W_draw (Step [] w15) [(0, true), (1, true), (2, true), (3, true), (4, true), (5, true), (6, true), (7, true), (8, true), (9, true), (10, false), (11, true)] Tryz.mixed (by rfl) (by kernel_rfl) (Step.drew _ _) ?_
  refine pq (fun _ hc => r_loadsB (hB115.ext hc) rfl rfl) <| p (fun _ => r_move) <| p (fun _ => r_move) <| pic (i := i) rfl hf15 rfl rfl hlt fun a45 h45 => ?_
  rw [hse] at h45
  refine pq (fun _ hc => r_loadA (h45.ext hc) rfl) <| p (fun _ => r_fieldB rfl) <| pq (fun _ hc => r_loadB (hB115.ext hc) rfl rfl) <| p (fun _ => r_move) <|
    pic (i := k) rfl ha15.al rfl rfl hltk fun a50 h50 => ?_
  rw [hu] at h50
  refine pq (fun _ hc => r_loadA (h50.ext hc) rfl) <| pk <| xf <| hsr.mono ?_
  rintro r16 w16 ⟨rfl, hs16⟩
  have hs1516 := (Step.drew [] w15).trans hs16
  refine ⟨hs1516, p (fun _ => r_assign) <| pe ?_⟩
  have hI16 := hI15.ext hs1516
  have hB116 := hB115.ext hs1516
  have hf16 := hf15.ext hs1516
  refine W_seq <| W_region (by rfl) ?_
  refine x r_move <| x (r_geq rfl rfl) <| xe ?_
  refine W_ifn rfl (fun h54 => ?_) (fun h54 => ?_)
  · rw [if_neg h54] at hr15
    refine W_skip ?_
    refine W_region (by rfl) ?_
    refine x r_move <| x (r_add rfl rfl ⟨by omega, by omega⟩) <| x r_assign <| xe ?_
    exact ⟨(k + 1, E, vd), by simp only []; omega, ⟨rfl, trivial⟩, hltk, hI16, by simp only []; omega, hr15⟩
  rw [if_pos h54] at hr15
  have hvd := own_ge hI15.e
  have haD : Ints (b4 :: ob vd) w16.heap va a.al := (((ha7.al.up (L' := b4 :: ob vd) (fun b hb => by
    rcases List.mem_cons.1 hb with rfl | hb
    · exact .inl (by simp)
    · exact .inr (hvd b hb).1)).step hI15.st (by simp)).ext hs1516)
  have nb4 := own_notin hI16.e hl7
  have nb1 : b1 ∉ ob vd := own_notin hI16.e (by omega)
  refine W_draw (Step (ob vd) w16) [(0, true), (1, true), (2, true), (3, true), (4, true), (5, true), (6, true), (7, true), (8, true), (9, true), (10, false), (11, true), (12, false), (13, false), (14, true), (15, false)] Tryz.mixed (by rfl) (by kernel_rfl) (Step.drew _ _) ?_
  refine p (fun _ => r_fieldB rfl) <| pq (fun _ hc => r_loadB (hI16.B.step hc nb4) rfl rfl) <| p (fun _ => r_move) <| p (fun _ => r_fieldB rfl) <| pq (fun _ hc => r_loadB (hB116.step hc nb1) rfl rfl) <|
    p (fun _ => r_move) <| pic (i := k) rfl haD rfl rfl hltk fun a61 h61 => ?_
  rw [hu] at h61
  refine pq (fun _ hc => r_loadA (h61.step hc (fun b hb => List.mem_cons_of_mem _ hb)) rfl) <| p (fun _ => r_move) <| p (fun _ => r_move) <|
    pk <| xf <| (indexR_ok (hf16.ext (Step.drew [] w16)) t).mono ?_
  rintro r17 w17 ⟨rfl, rfl⟩
  refine ⟨Step.drew _ _, p (fun _ => r_build ⟨rfl, rfl, rfl, trivial⟩) <| pk <| o_lits (us := [edCells ((i : Int), u, ixR fd t)]) rfl rfl (by decide) (by exact (by decide : 1 * 3 ≤ 1000000)) ⟨rfl, rfl, trivial⟩ fun b67 w18 hs18 hb67 hB67 => ?_⟩
  have hs1618 := (Step.drew [] w16).trans hs18
  have hI18 := hI16.ext hs1618
  refine ⟨hs1618.any, ?_⟩
  refine pk <| o_app (news := edCells ((i : Int), u, ixR fd t)) (L := []) hI18.e rfl rfl rfl (hB67.at (by simp)) (fun y hy => by simp only [edCells, List.mem_cons, List.not_mem_nil, or_false] at hy; rcases hy with rfl | rfl | rfl <;> rfl) (by omega) hI18.st.size fun v19 w19 ho19 hs19 hn19 => ⟨(hs1618.any (L := ob vd)).trans' hs19, ?_⟩
  have ho19' : EdsO 85 w7.heap.size w19 v19 (E ++ [((i : Int), u, ixR fd t)]) := EdsO.snoc ho19
  refine p (fun _ => r_fieldB rfl) <| pkl (hl := by kernel_rfl) <| o_store (hI18.B.step hs19 (own_notin hI18.e hl7)) rfl rfl (by simp) (EdsO.eds (L := []) ho19' (by simp; omega) (by simp)).one fun w20 hs20 hB20 =>
    pe ?_
  have hI20 := hI18.setE hl7 hs19 ho19' hn19 hs20 hB20
  refine W_region (by rfl) ?_
  refine x r_move <| x (r_add rfl rfl ⟨by omega, by omega⟩) <| x r_assign <| xe ?_
  refine ⟨(k + 1, E ++ [((i : Int), u, ixR fd t)], v19), by simp only []; omega, ⟨rfl, trivial⟩, hltk, hI20, by simp; omega, ?_⟩
  simp only [List.append_assoc, List.singleton_append]
  exact hr15
end Go.Proofs.YtfhgnlkdcdlblaaGreatDoor

/- Contracts: overseerlaw03's Events. The remainder of a division. -/
namespace Go.Lg
section
variable {P : Program} {f : Fr} {w : World} {d : Option Nat} {ty : Nat} {ps : String} {af : Array Edge} {gd : Option (Nat × Bool)}
theorem r_rem {t t' : Nat} {x y : Operand} {k : IntKind} {a b : Int} (hx : ev f x = .int k a) (hy : ev f y = .int k b) (ha : 0 ≤ a) (hb : 0 < b) :
    (execOp (ev f) ⟨d, .binOp .rem t x y t', ty, ps, af, gd⟩).run P w = .ok (.value (.int k (a % b))) w := by
  refine r_bin hx hy ?_
  have h1 : ¬ b = 0 := by omega
  simp [binOp, Op.intDiv, h1, Int.tmod_eq_emod_of_nonneg ha]
end
end Go.Lg
namespace Go.Proofs.YtfhgnlkdcdlblaaGreatDoor
open Go.Lg

theorem events3_ok (m : Nat) (hm : m < 256) (w : World) : Ret Tryz.prog 27 [.int .u8 m] w fun r w' => Step [] w w' ∧ IntsO 3 w.heap.size w' r (setK m 5) := by
  refine Ret.of_W Tryz.func27 rfl Tryz.ntmps27 Tryz.results27 (by simp) ?_
  refine W_seq <| W_region (by rfl) ?_
  refine x r_assign <| xe ?_
  refine W_seq <| W_region (by rfl) ?_
  refine x r_assign <| xe ?_
  refine W_seq <| W_seq <| W_region (by rfl) ?_
  refine x r_assign <| xe ?_
  refine W_block <| W_loop (α := Nat × Value) [(3, 17)] (fun z => [(3, z.2), (4, .int .i64 z.1)]) (fun z w' => z.1 ≤ 5 ∧ Step [] w w' ∧ IntsO 3 w.heap.size w' z.2 (setK m z.1)) (fun z => 5 - z.1) (by rfl) (0, .slice none 0 0) ⟨rfl, rfl, trivial⟩
    ⟨Nat.zero_le _, Step.refl _ _, own_nil _ _ _ _⟩ ?_
  rintro ⟨k, v⟩ g w1 ⟨hk, hs1, ho1⟩
  simp only [] at hk ho1
  have hlen := setK_len m k
  have hz1 := hs1.size
  refine W_seq <| W_seq <| W_region (by rfl) ?_
  refine x r_move <| x (r_lss rfl rfl) <| xe ?_
  refine W_ifn rfl (fun h6 => ?_) (fun h6 => ?_)
  · refine W_exit ?_
    refine W_seq <| W_region (by rfl) ?_
    refine x r_move <| x r_assign <| xe ?_
    have hke : k = 5 := by omega
    rw [hke] at ho1
    exact W_ret ⟨[v], ⟨rfl, trivial⟩, hs1, ho1⟩
  have hlt : k < 5 := by omega
  have hdv : m / 2 ^ k < 256 := Nat.lt_of_le_of_lt (Nat.div_le_self _ _) hm
  have hsucc := setK_succ m k
  refine W_skip ?_
  refine W_seq <| W_block <| W_seq <| W_region (by rfl) ?_
  refine x r_move <| x r_move <| x (r_shr (n := k) rfl rfl (by show k ≤ 8; omega)) <| x (r_and8 (a := m / 2 ^ k) (b := 1) (congrArg (Value.int .u8) (shr_nat m k)) rfl hdv (by decide)) <| x (r_eql rfl rfl) <| xe ?_
  refine W_ifn rfl (fun h12 => ?_) (fun h12 => ?_)
  · rw [if_neg (fun e => h12 (by rw [e]; rfl))] at hsucc
    refine W_skip ?_
    refine W_region (by rfl) ?_
    refine x r_move <| x (r_add rfl rfl ⟨by omega, by omega⟩) <| x r_assign <| xe ?_
    exact ⟨(k + 1, v), by simp only []; omega, ⟨rfl, rfl, trivial⟩, hlt, hs1, by simp only []; rw [hsucc]; exact ho1⟩
  rw [if_pos (by omega)] at hsucc
  refine W_region (by rfl) ?_
  refine x r_move <| x r_move <| xl rfl <| o_lits (us := [[.int .i64 k]]) rfl rfl (by decide) (by simp) ⟨rfl, rfl, trivial⟩ fun b15 w2 hs2 hb15 hB15 => ?_
  have ho2 := own_ext ho1 hs2
  have hz2 := hs2.size
  refine xl rfl <| o_app (news := [.int .i64 k]) (L := []) ho2 rfl rfl rfl (hB15.at (by simp)) (by simp [Value.oneCell']) (by omega) (by omega) fun v3 w3 ho3 hs3 hn3 =>
    x r_assign <| xe ?_
  have hge := own_ge ho1
  refine W_region (by rfl) ?_
  refine x r_move <| x (r_add rfl rfl ⟨by omega, by omega⟩) <| x r_assign <| xe ?_
  refine ⟨(k + 1, v3), by simp only []; omega, ⟨rfl, rfl, trivial⟩, hlt, (hs1.trans hs2).then hs3 (fun b hb => .inr (hge b hb).1), ?_⟩
  simp only []
  rw [hsucc]; exact IntsO.snoc ho3
end Go.Proofs.YtfhgnlkdcdlblaaGreatDoor

/- Contract: overseerlaw03's Make: the automaton of a graph is right, over the alphabet, with at most 5 states. -/
namespace Go.Proofs.YtfhgnlkdcdlblaaGreatDoor
open Go.Lg

instance : Ay Tryz.prog 24 5 23 5 := ⟨by kernel_rfl, by kernel_rfl⟩
instance : Ay Tryz.prog 23 5 5 1 := ⟨by kernel_rfl, by kernel_rfl⟩
/-- Bytes as cells. -/
abbrev bys (ns : List Nat) : List Value := ns.map fun n : Nat => .int .u8 (n : Int)
theorem bys_at {ns : List Nat} {j : Nat} (h : j < ns.length) : (bys ns)[j]? = some (.int .u8 ((ns.getD j 0 : Nat) : Int)) := by simp [bys, List.getD, h]
theorem bys_ones : ∀ (ns : List Nat), OnesL (bys ns)
  | [] => trivial
  | _ :: ns => ⟨rfl, bys_ones ns⟩
theorem getD_lt {ns : List Nat} (h : ∀ n ∈ ns, n < 256) (j : Nat) : ns.getD j 0 < 256 := by
  by_cases hj : j < ns.length
  · simp only [List.getD, List.getElem?_eq_getElem hj, Option.getD_some]; exact h _ (List.getElem_mem hj)
  · simp [List.getD, hj]
/-- What holds while the graph is read. -/
structure GrI (al : List Int) (S i k : Nat) (M : List Int) (E : List Ed) : Prop where
  mb : ∀ x ∈ M, 0 ≤ x ∧ x < S
  mi : Inc M
  ml : ∀ x ∈ M, x < (i : Int) + 1
  mn : M.length ≤ S
  eb : ∀ e ∈ E, 0 ≤ e.1 ∧ e.1 < S ∧ e.2.1 ∈ al ∧ 0 ≤ e.2.2 ∧ e.2.2 < S
  ei : E.Pairwise fun x y => x.1 < y.1 ∨ (x.1 = y.1 ∧ x.2.1 < y.2.1)
  el : ∀ e ∈ E, e.1 < i ∨ (e.1 = i ∧ e.2.1 ∈ al.take k)
  en : E.length ≤ i * 5 + k
theorem inc_len {S : Nat} {M : List Int} (hb : ∀ x ∈ M, 0 ≤ x ∧ x < S) (hi : Inc M) : M.length ≤ S := pig S M (hi.imp (fun h => by omega)) hb
theorem GrI.mark {al : List Int} {S i : Nat} {M : List Int} {E : List Ed} (h : GrI al S i 0 M E) (hm : ∀ x ∈ M, x < (i : Int)) (hi : i < S) : GrI al S i 0 (M ++ [(i : Int)]) E := by
  have hmb : ∀ x ∈ M ++ [(i : Int)], 0 ≤ x ∧ x < S := fun x hx => by
    rcases List.mem_append.1 hx with hx | hx
    · exact h.mb x hx
    · simp only [List.mem_singleton] at hx; omega
  have hmi : Inc (M ++ [(i : Int)]) := by
    refine List.pairwise_append.2 ⟨h.mi, by simp, fun x hx y hy => ?_⟩
    simp only [List.mem_singleton] at hy
    subst hy; exact hm x hx
  refine ⟨hmb, hmi, fun x hx => ?_, inc_len hmb hmi, h.eb, h.ei, h.el, h.en⟩
  rcases List.mem_append.1 hx with hx | hx
  · have := hm x hx; omega
  · simp only [List.mem_singleton] at hx; omega
theorem GrI.skip {al : List Int} {S i k : Nat} {M : List Int} {E : List Ed} (h : GrI al S i k M E) (hk : k < al.length) : GrI al S i (k + 1) M E :=
  ⟨h.mb, h.mi, h.ml, h.mn, h.eb, h.ei, fun e he => (h.el e he).imp id (fun x => ⟨x.1, by rw [List.take_succ_eq_append_getElem hk]; exact List.mem_append_left _ x.2⟩), by have := h.en; omega⟩
theorem GrI.edge {al : List Int} {S i k : Nat} {M : List Int} {E : List Ed} (h : GrI al S i k M E) (hk : k < al.length) (ha : Inc al) (hi : i < S) {t : Int} (h0 : 0 ≤ t) (ht : t < S) : GrI al S i (k + 1) M (E ++ [((i : Int), cget al k, t)]) := by
  have hmem : cget al k ∈ al := cget_mem hk
  refine ⟨h.mb, h.mi, h.ml, h.mn, fun e he => ?_, ?_, fun e he => ?_, by have := h.en; simp; omega⟩
  · rcases List.mem_append.1 he with he | he
    · exact h.eb e he
    · simp only [List.mem_singleton] at he; subst he; exact ⟨by simp only []; omega, by simp only []; omega, hmem, h0, ht⟩
  · refine List.pairwise_append.2 ⟨h.ei, by simp, fun x hx y hy => ?_⟩
    simp only [List.mem_singleton] at hy
    subst hy
    rcases h.el x hx with h1 | ⟨h1, h2⟩
    · left; exact h1
    · right
      refine ⟨h1, ?_⟩
      simp only []
      have hp : Inc (al.take k ++ al.drop k) := by rw [List.take_append_drop]; exact ha
      refine (List.pairwise_append.1 hp).2.2 _ h2 _ ?_
      rw [List.drop_eq_getElem_cons hk, cget_eq hk]; exact List.mem_cons_self
  · rw [List.take_succ_eq_append_getElem hk, cget_eq hk]
    rcases List.mem_append.1 he with he | he
    · exact (h.el e he).imp id (fun x => ⟨x.1, List.mem_append_left _ x.2⟩)
    · simp only [List.mem_singleton] at he; subst he; exact .inr ⟨rfl, List.mem_append_right _ (by simp)⟩
theorem GrI.next {al : List Int} {S i k : Nat} {M : List Int} {E : List Ed} (h : GrI al S i k M E) (hk : k ≤ 5) : GrI al S (i + 1) 0 M E :=
  ⟨h.mb, h.mi, fun x hx => by have := h.ml x hx; omega, h.mn, h.eb, h.ei, fun e he => by rcases h.el e he with h1 | h1 <;> (left; omega), by have := h.en; omega⟩

set_option maxHeartbeats 2000000 in
theorem make3_ok {L : List Nat} {w : World} {v : Value} {al : List Int} {ns : List Nat} (h : Ints L w.heap v al) (hb : ∀ e ∈ al, 0 ≤ e ∧ e < 32) (hi : Inc al) (hn : ns.length = 27) (hns : ∀ n ∈ ns, n < 256) :
    Ret Tryz.prog 26 [v, .agg (bys ns).toArray] w fun r w' => Step [] w w' ∧ ∃ a : Aut, AutF w.heap.size w'.heap r a ∧ Okay a ∧ a.st ≤ 5 ∧ a.al = al := by
  have hall : al.length ≤ 32 := pig 32 al (hi.imp (fun h => by omega)) (fun x hx => by have := hb x hx; omega)
  refine Ret.of_W Tryz.func26 rfl Tryz.ntmps26 Tryz.results26 (by simp) ?_
  have g0 := bys_at (ns := ns) (j := 0) (by omega)
  have g1 := bys_at (ns := ns) (j := 1) (by omega)
  have l0 := getD_lt hns 0
  have l1 := getD_lt hns 1
  refine exE (ns.getD 0 0) fun s0 hs0 => ?_
  refine exE (ns.getD 1 0) fun m1 hm1 => ?_
  rw [hs0] at g0 l0
  rw [hm1] at g1 l1
  refine W_seq <| W_region (by rfl) ?_
  refine xl rfl <| o_box (us := bys ns) rfl fun b3 w1 hs1 hb3 hB3 => xl rfl <| o_alloc (us := [.slice none 0 0, .int .i64 0, .slice none 0 0, .slice none 0 0]) rfl fun b4 w2 hs2 hb4 hB4 => xe ?_
  have hs12 := hs1.trans hs2
  have hB32 := hB3.ext hs2
  have hz1 := hs1.size
  have hz2 := hs2.size
  have hl3 := hB3.lt
  have hl4 := hB4.lt
  refine W_seq <| W_seq <| W_region (by rfl) ?_
  refine x (r_fieldB rfl) <| x (r_loadB hB32 rfl g0) <| x (r_geq rfl rfl) <| xe ?_
  refine W_if rfl (fun h11 => ?_) (fun h11 => ?_)
  · refine W_seq <| W_region (by rfl) ?_
    refine x r_move <| xl rfl <| xf <| (emptyR_ok (h.ext hs12) (by omega)).mono ?_
    rintro r3 w3 ⟨hs3, vcl, rfl, hcl⟩
    have hclA := IntsO.ints (L := []) hcl (by omega) (by simp)
    refine xl rfl <| o_stores (us := [vcl, .int .i64 0, .slice none 0 0, .slice none 0 0]) (hB4.ext hs3) rfl rfl rfl rfl ⟨hclA.one, rfl, rfl, rfl, trivial⟩ fun w4 hs4 hB4' => xe ?_
    have hcl4 := own_step hcl hs4 (fun b hb => by have := (own_ge hcl b hb).1; simp; omega)
    refine W_ret ⟨[.agg #[vcl, .int .i64 0, .slice none 0 0, .slice none 0 0]], ⟨⟨_, rfl, run_loadVar_ag rfl (hB4'.at (L := []) (by simp)).cells⟩, trivial⟩, (hs12.trans hs3).then1 hs4 (by omega), ⟨al, 0, [], []⟩, ?_, ?_, (by decide : (0 : Int) ≤ 5), rfl⟩
    · exact ⟨vcl, _, _, rfl, fun L' hL' => ⟨IntsO.ints hcl4 (by show al.length ≤ _; omega) (fun b hb => by have := hL' b hb; omega), Arr.nil _ _ _, Arr.nil _ _ _⟩⟩
    · exact ⟨hb, hi, (by decide : (0 : Int) ≤ 0), (by decide : (0 : Int) ≤ 4096), by simp, by simp, by simp, by simp⟩
  refine W_skip ?_
  refine W_seq <| W_region (by rfl) ?_
  refine x r_move <| xl rfl <| xf <| (emptyR_ok (h.ext hs12) (by omega)).mono ?_
  rintro r5 w5 ⟨hs5, vcl, rfl, hcl⟩
  have hclA := IntsO.ints (L := []) hcl (by omega) (by simp)
  refine xl rfl <| o_alloc (us := [.slice none 0 0, .int .i64 0, .slice none 0 0, .slice none 0 0]) rfl fun b5 w6 hs6 hb5 hB5 =>
    xl rfl <| o_stores (us := [vcl, .int .i64 0, .slice none 0 0, .slice none 0 0]) hB5 rfl rfl rfl rfl ⟨hclA.one, rfl, rfl, rfl, trivial⟩ fun w7 hs7 hB7 => xe ?_
  have hs57 : Step [] w5 w7 := hs6.then1 hs7 hb5
  have hs27 := hs5.trans hs57
  have hz5 := hs5.size
  have hz57 := hs57.size
  have hl5 := hB7.lt
  refine exE (1 + s0 % 5) fun S hS => ?_
  have hS1 : 1 ≤ S ∧ S ≤ 5 := by omega
  have hSe : (1 : Int) + (s0 : Int) % 5 = (S : Int) := by omega
  refine W_seq <| W_region (by rfl) ?_
  refine x (r_fieldB rfl) <| x (r_loadB (hB32.ext hs27) rfl g0) <| x (r_rem (a := (s0 : Int)) (b := 5) rfl rfl (by omega) (by omega)) <| x (r_conv (k' := .i64) rfl ⟨by omega, by omega⟩) <| x (r_add rfl rfl ⟨by omega, by omega⟩) <| x (r_fieldB rfl) <|
    xl rfl <| o_store (u := .int .i64 S) hB7 rfl (congrArg (Value.int .i64) hSe) (by simp) rfl fun w8 hs8 hB8 => xe ?_
  have hz8 := hs8.size
  have hs28 : Step [b5] w2 w8 := (hs27.any (L := [b5])).trans' hs8
  have hW8 : Step [] w w8 := (hs12.trans hs27).then1 hs8 (by omega)
  have hal8 : Ints [b5] w8.heap v al := (h.up (L' := [b5]) (fun b hb => .inr (by simp at hb; omega))).ext hW8
  have hc8 : IntsO 3 w2.heap.size w8 vcl al := own_step (own_ext hcl hs57) hs8 (fun b hb => by have := own_lt hcl b hb; simp; omega)
  have hB38 := (hB32.ext hs27).step hs8 (by simp; omega)
  have hB48 := (hB4.ext hs27).step hs8 (by simp; omega)
  have hl8 : b5 < w8.heap.size := by omega
  have n3 : b3 ∉ [b5] := by simp; omega
  have n4 : b4 ∉ [b5] := by simp; omega
  refine W_seq <| W_seq <| W_region (by rfl) ?_
  refine x r_assign <| xe ?_
  refine W_block <| W_loop (α := Nat × Value × Value × List Int × List Ed) [(6, 8), (22, 76)] (fun z => [(6, .int .i64 z.1)])
    (fun z w' => z.1 ≤ S ∧ CrI w8 b5 vcl S z.2.1 z.2.2.1 z.2.2.2.1 z.2.2.2.2 w' ∧ GrI al S z.1 0 z.2.2.2.1 z.2.2.2.2 ∧ ∀ x ∈ z.2.2.2.1, x < (z.1 : Int)) (fun z => S - z.1) (by rfl) (0, .slice none 0 0, .slice none 0 0, [], []) ⟨rfl, trivial⟩
    ⟨Nat.zero_le _, ⟨Step.refl _ _, hB8, own_nil _ _ _ _, own_nil _ _ _ _, Dj.nil' _⟩, ⟨by simp, by simp, by simp, by simp, by simp, by simp, by simp, by simp⟩, by simp⟩ ?_
  rintro ⟨i, v1, v2, M, E⟩ g9 w9 ⟨hi9, hI, hG, hM⟩
  simp only [] at hi9 hI hG hM
  have hmn := hG.mn
  have hen := hG.en
  refine W_seq <| W_seq <| W_region (by rfl) ?_
  refine x r_move <| x (r_fieldB rfl) <| x (r_loadB hI.B rfl rfl) <| x (r_lss rfl rfl) <| xe ?_
  refine W_ifn rfl (fun h25 => ?_) (fun h25 => ?_)
  · have hie : i = S := by omega
    refine W_exit ?_
    have hmA := IntsO.ints (L := []) hI.m (by omega) (by simp)
    have heA := EdsO.eds (L := []) hI.e (by omega) (by simp)
    have hc9 : IntsO 3 w2.heap.size w9 vcl al := own_step hc8 hI.st (fun b hb => by have := own_lt hcl b hb; simp; omega)
    have hA9 : AutA [] w9.heap vcl v1 v2 ⟨al, (S : Int), M, E⟩ := ⟨IntsO.ints hc9 (by show al.length ≤ _; omega) (by simp), hmA, heA⟩
    have hok : Okay ⟨al, (S : Int), M, E⟩ := ⟨hb, hi, by simp only []; omega, by simp only []; omega, hG.mb, hG.mi, hG.eb, hG.ei⟩
    have hcan := canR_ok hok
    have hW9 : Step [] w w9 := hW8.then1 hI.st (by omega)
    have hB49 := hB48.step hI.st n4
    have hz9 := hI.st.size
    refine W_seq <| W_region (by rfl) ?_
    refine x (r_loadsB hI.B rfl rfl) <| xl rfl <| xf <| (canonicalR_ok (a := ⟨al, (S : Int), M, E⟩) hA9 hok).mono ?_
    rintro vr w10 ⟨hs10, hF⟩
    obtain ⟨us, hva, husl, hus⟩ := AutF_shape hF
    refine xl rfl <| o_stores (us := us) (hB49.ext hs10) rfl hva husl rfl hus fun w11 hs11 hB11 => xe ?_
    have hzW := hW9.size
    refine W_ret ⟨[.agg us.toArray], ⟨⟨_, rfl, run_loadVar_ag husl (hB11.at (L := []) (by simp)).cells⟩, trivial⟩, (hW9.trans hs10).then1 hs11 (by omega), canR ⟨al, (S : Int), M, E⟩, ?_, hcan.1, ?_, hcan.2.1⟩
    · show AutF _ _ (.agg us.toArray) _
      rw [← hva]
      exact (AutF_st1 hF (by omega) hs11).mono hzW
    · have := hcan.2.2
      simp only [] at this
      omega
  have hlt : i < S := by omega
  refine W_skip ?_
  refine W_seq <| W_block <| W_cut (α := Value × List Int) [(28, 39)] (fun z => []) (fun z w' => CrI w8 b5 vcl S z.1 v2 z.2 E w' ∧ GrI al S i 0 z.2 E) (by rfl) ?_ ?_
  · have hdv : m1 / 2 ^ i < 256 := Nat.lt_of_le_of_lt (Nat.div_le_self _ _) l1
    refine W_seq <| W_region (by rfl) ?_
    refine x (r_fieldB rfl) <| x (r_loadB (hB38.step hI.st n3) rfl g1) <| x r_move <| x (r_shr (n := i) rfl rfl (by show i ≤ 8; omega)) <| x (r_and8 (a := m1 / 2 ^ i) (b := 1) (congrArg (Value.int .u8) (shr_nat m1 i)) rfl hdv (by decide)) <| x (r_eql rfl rfl) <| xe ?_
    refine W_ifn rfl (fun h33 => ?_) (fun h33 => ?_)
    · refine W_skip ?_
      exact ⟨(v1, M), trivial, hI, hG⟩
    refine W_region (by rfl) ?_
    refine x (r_fieldB rfl) <| x (r_loadB hI.B rfl rfl) <| x r_move <| xl rfl <| o_lits (us := [[.int .i64 i]]) rfl rfl (by decide) (by simp) ⟨rfl, rfl, trivial⟩ fun b37 w12 hs12' hb37 hB37 => ?_
    have hI12 := hI.ext hs12'
    refine xl rfl <| o_app (news := [.int .i64 i]) (L := []) hI12.m rfl rfl rfl (hB37.at (by simp)) (by simp [Value.oneCell']) (by omega) hI12.st.size fun v13 w13 ho13 hs13 hn13 => ?_
    have ho13' : IntsO 3 w8.heap.size w13 v13 (M ++ [(i : Int)]) := IntsO.snoc ho13
    refine x (r_fieldB rfl) <| xl rfl <| o_store (hI12.B.step hs13 (own_notin hI12.m hl8)) rfl rfl (by simp) (IntsO.ints (L := []) ho13' (by simp; omega) (by simp)).one fun w14 hs14 hB14 =>
      xe ?_
    exact ⟨(v13, M ++ [(i : Int)]), trivial, hI12.setM hl8 hs13 ho13' hn13 hs14 hB14, hG.mark hM hlt⟩
  rintro ⟨v3, M3⟩ g15 w15 ⟨hI15, hG15⟩
  simp only [] at hI15 hG15
  refine W_seq <| W_region (by rfl) ?_
  refine x r_assign <| xe ?_
  refine W_block <| W_loop (α := Nat × Value × List Ed) [(7, 8), (40, 76)] (fun z => [(7, .int .i64 z.1)])
    (fun z w' => z.1 ≤ al.length ∧ z.1 ≤ 5 ∧ CrI w8 b5 vcl S v3 z.2.1 M3 z.2.2 w' ∧ GrI al S i z.1 M3 z.2.2) (fun z => 5 - z.1) (by rfl) (0, v2, E) ⟨rfl, trivial⟩
    ⟨Nat.zero_le _, Nat.zero_le _, hI15, hG15⟩ ?_
  rintro ⟨k, vd, F⟩ g16 w16 ⟨hk, hk5, hI16, hG16⟩
  simp only [] at hk hk5 hI16 hG16
  have hal16 := hal8.st hI16.st
  have hfn := hG16.en
  refine W_seq <| W_cut (α := Unit) [(40, 47)] (fun z => [(47, .bool (decide (k < al.length ∧ k < 5)))]) (fun z w' => w' = w16) (by rfl) ?_ ?_
  · refine W_region (by rfl) ?_
    refine x r_move <| x r_move <| x (r_lenA hal16 rfl) <| xb (r_lss rfl rfl) (fun h43 => ?_) (fun h43 => ?_)
    · refine x r_move <| x r_move <| x (r_lss rfl rfl) <| x (r_pick rfl) <| xe ?_
      refine ⟨(), ⟨congrArg Value.bool ?_, trivial⟩, rfl⟩
      exact decide_eq_decide.2 ⟨fun e => ⟨by omega, by omega⟩, fun e => by omega⟩
    refine x r_move <| xs rfl <| xs rfl <| x (r_pick rfl) <| xe ?_
    exact ⟨(), ⟨congrArg Value.bool (decide_eq_false (fun e => h43 (by omega))).symm, trivial⟩, rfl⟩
  rintro _ g17 w17 rfl
  refine W_ifn rfl (fun h47 => ?_) (fun h47 => ?_)
  · refine W_exit ?_
    refine W_region (by rfl) ?_
    refine x r_move <| x (r_add rfl rfl ⟨by omega, by omega⟩) <| x r_assign <| xe ?_
    exact ⟨(i + 1, v3, vd, M3, F), by simp only []; omega, ⟨rfl, trivial⟩, hlt, hI16, hG16.next hk5, fun x hx => by have := hG16.ml x hx; simp only []; omega⟩
  have hk1 : k < al.length := h47.1
  have hk2 : k < 5 := h47.2
  have gj := bys_at (ns := ns) (j := 0 + 2 + i * 5 + k * 1) (by omega)
  have lj := getD_lt hns (0 + 2 + i * 5 + k * 1)
  refine exE (ns.getD (0 + 2 + i * 5 + k * 1) 0) fun q hq => ?_
  rw [hq] at gj lj
  have hB316 := hB38.step hI16.st n3
  have hmod : 0 ≤ (q : Int) % ((S : Int) + 2) := Int.emod_nonneg _ (by omega)
  have hmod2 : (q : Int) % ((S : Int) + 2) < (S : Int) + 2 := Int.emod_lt_of_pos _ (by omega)
  refine W_skip ?_
  refine W_seq <| W_block <| W_seq <| W_draw (Step [] w17) [(0, true), (1, true), (2, true), (3, true), (4, true), (5, true), (6, true), (7, true), (8, true), (9, true), (10, true), (11, true)] Tryz.mixed (by rfl) (by kernel_rfl) (Step.drew _ _) ?_
  refine p (fun _ => r_move) <| p (fun _ => r_move) <| p (fun _ => r_fieldB rfl) <| p (fun _ => r_indexR (i := i) rfl rfl (by omega)) <| p (fun _ => r_indexR (i := k) rfl rfl hk2) <| pq (fun _ hc => r_loadB (hB316.ext hc) rfl gj) <|
    p (fun _ => r_conv (k' := .i64) rfl ⟨by omega, by omega⟩) <| p (fun _ => r_fieldB rfl) <| pq (fun _ hc => r_loadB (hI16.B.ext hc) rfl rfl) <| p (fun _ => r_add rfl rfl ⟨by omega, by omega⟩) <|
    p (fun _ => r_rem (a := (q : Int)) (b := (S : Int) + 2) rfl rfl (by omega) (by omega)) <| p (fun _ => r_assign) <| pe ?_
  have hI17 := hI16.ext (Step.drew [] w17)
  refine exE ((q : Int) % ((S : Int) + 2)) fun t ht => ?_
  have ht0 : 0 ≤ t := by omega
  refine W_seq <| W_region (by rfl) ?_
  refine x r_move <| x (r_fieldB rfl) <| x (r_loadB hI17.B rfl rfl) <| x (r_lss rfl rfl) <| xe ?_
  refine W_ifn rfl (fun h64 => ?_) (fun h64 => ?_)
  · refine W_skip ?_
    refine W_region (by rfl) ?_
    refine x r_move <| x (r_add rfl rfl ⟨by omega, by omega⟩) <| x r_assign <| xe ?_
    exact ⟨(k + 1, vd, F), by simp only []; omega, ⟨rfl, trivial⟩, hk1, hk2, hI17, hG16.skip hk1⟩
  have hvd := own_ge hI17.e
  have haD : Ints (b5 :: ob vd) { w17 with drawn := w17.drawn + 1 }.heap v al := ((hal8.up (L' := b5 :: ob vd) (fun b hb => by
    rcases List.mem_cons.1 hb with rfl | hb
    · exact .inl (by simp)
    · exact .inr (hvd b hb).1)).step hI17.st (by simp))
  have nb5 := own_notin hI17.e hl8
  refine W_draw (Step (ob vd) { w17 with drawn := w17.drawn + 1 }) [(0, true), (1, true), (2, true), (3, true), (4, true), (5, true), (6, true), (7, true), (8, true), (9, false), (10, false), (11, true), (12, false)] Tryz.mixed (by rfl) (by kernel_rfl) (Step.drew _ _) ?_
  refine p (fun _ => r_fieldB rfl) <| pq (fun _ hc => r_loadB (hI17.B.step hc nb5) rfl rfl) <| p (fun _ => r_move) <| p (fun _ => r_move) <| p (fun _ => r_move) <|
    pic (i := k) rfl haD rfl rfl hk1 fun a70 h70 => pq (fun _ hc => r_loadA (h70.step hc (fun b hb => List.mem_cons_of_mem _ hb)) rfl) <| p (fun _ => r_move) <| p (fun _ => r_build ⟨rfl, rfl, rfl, trivial⟩) <|
    pk <| o_lits (us := [edCells ((i : Int), cget al k, (q : Int) % ((S : Int) + 2))]) rfl rfl (by decide) (by exact (by decide : 1 * 3 ≤ 1000000)) ⟨rfl, rfl, trivial⟩ fun b74 w18 hs18 hb74 hB74 => ?_
  have hs1718 := (Step.drew [] { w17 with drawn := w17.drawn + 1 }).trans hs18
  have hI18 := hI17.ext hs1718
  refine ⟨hs1718.any, ?_⟩
  refine pk <| o_app (news := edCells ((i : Int), cget al k, (q : Int) % ((S : Int) + 2))) (L := []) hI18.e rfl rfl rfl (hB74.at (by simp)) (fun y hy => by simp only [edCells, List.mem_cons, List.not_mem_nil, or_false] at hy; rcases hy with rfl | rfl | rfl <;> rfl) (by omega) hI18.st.size fun v19 w19 ho19 hs19 hn19 => ⟨(hs1718.any (L := ob vd)).trans' hs19, ?_⟩
  have ho19' : EdsO 85 w8.heap.size w19 v19 (F ++ [((i : Int), cget al k, (q : Int) % ((S : Int) + 2))]) := EdsO.snoc ho19
  refine p (fun _ => r_fieldB rfl) <| pkl (hl := by kernel_rfl) <| o_store (hI18.B.step hs19 (own_notin hI18.e hl8)) rfl rfl (by simp) (EdsO.eds (L := []) ho19' (by simp; omega) (by simp)).one fun w20 hs20 hB20 => pe ?_
  have hI20 := hI18.setE hl8 hs19 ho19' hn19 hs20 hB20
  refine W_region (by rfl) ?_
  refine x r_move <| x (r_add rfl rfl ⟨by omega, by omega⟩) <| x r_assign <| xe ?_
  exact ⟨(k + 1, v19, F ++ [((i : Int), cget al k, (q : Int) % ((S : Int) + 2))]), by simp only []; omega, ⟨rfl, trivial⟩, hk1, hk2, hI20, hG16.edge hk1 hi hlt hmod (by omega)⟩
end Go.Proofs.YtfhgnlkdcdlblaaGreatDoor

/- Contract: overseerlaw26's Make: a plant and a supervisor that fit. -/
namespace Go.Lg
section
variable {P : Program} {f : Fr} {w : World} {d : Option Nat} {ty : Nat} {ps : String} {af : Array Edge} {gd : Option (Nat × Bool)}
theorem r_loadsBO {t sz : Nat} [Ag P t sz] {x : Operand} {b o T : Nat} {cs us : List Value} (h : Blk w.heap b T cs) (hx : ev f x = .pointer (some ⟨b, o, none⟩)) (hl : us.length = sz) (hsub : ∀ j u, us[j]? = some u → cs[o + j]? = some u) :
    (execOp (ev f) ⟨d, .load t x, ty, ps, af, gd⟩).run P w = .ok (.value (.agg us.toArray)) w := by
  refine r_loads hx hl fun j u hu => ?_
  rw [cel_world, lit_add', h.cell]
  exact hsub j u hu
end
end Go.Lg
namespace Go.Proofs.YtfhgnlkdcdlblaaGreatDoor
open Go.Lg

theorem bys_sub {ns : List Nat} {o n : Nat} : ∀ j u, (bys ((ns.drop o).take n))[j]? = some u → (bys ns)[o + j]? = some u := by
  intro j u h
  simp only [bys, List.getElem?_map, List.getElem?_take, List.getElem?_drop] at h ⊢
  split at h
  · exact h
  · cases h
theorem bys_all {ns : List Nat} (h : ∀ n ∈ ns, n < 256) (o n : Nat) : ∀ m ∈ (ns.drop o).take n, m < 256 := fun m hm => h m (List.mem_of_mem_drop (List.mem_of_mem_take hm))
/-- The plant and the supervisor of a problem. -/
structure Pb (aP aS : Aut) : Prop where
  p : Okay aP
  s : Okay aS
  p5 : aP.st ≤ 5
  s5 : aS.st ≤ 5
  sub : ∀ x ∈ aS.al, x ∈ aP.al
theorem setK_bd (m k : Nat) : ∀ e ∈ setK m k, 0 ≤ e ∧ e < k := by
  intro e he
  simp only [setK, List.mem_map, List.mem_filter, List.mem_range'_1] at he
  obtain ⟨i, ⟨hi, _⟩, rfl⟩ := he
  omega
theorem mrg_inc (keep : Bool → Bool → Bool) : ∀ (n : Nat) (a b : List Int), a.length + b.length ≤ n → Inc a → Inc b → Inc (mrg keep a b) := by
  intro n
  induction n with
  | zero =>
    intro a b h _ _
    have ha : a = [] := List.eq_nil_of_length_eq_zero (by omega)
    have hb : b = [] := List.eq_nil_of_length_eq_zero (by omega)
    subst ha hb; rw [mrg_nil]; exact List.Pairwise.nil
  | succ n ih =>
    intro a b hn ia ib
    by_cases h : a = [] ∧ b = []
    · obtain ⟨rfl, rfl⟩ := h; rw [mrg_nil]; exact List.Pairwise.nil
    · have hlt := inA_tl h
      have itl : ∀ (c : Bool) (l : List Int), Inc l → Inc (tl c l) := fun c l hl => by
        cases c
        · exact hl
        · cases l with
          | nil => exact hl
          | cons y l => exact hl.tail
      have ih' := ih (tl (inA a b) a) (tl (inA b a) b) (by omega) (itl _ _ ia) (itl _ _ ib)
      rw [mrg_step keep h]
      cases keep (inA a b) (inA b a) with
      | false => simpa using ih'
      | true =>
        simp only [cond_true, List.singleton_append]
        refine List.pairwise_cons.2 ⟨fun x hx => ?_, ih'⟩
        have hm := (mem_mrg (itl _ _ ia) (itl _ _ ib) x).1 hx
        cases a with
        | nil =>
          cases b with
          | nil => exact absurd ⟨rfl, rfl⟩ h
          | cons y b =>
            simp only [inA, tl, cond_true, cond_false, List.tail_cons, List.not_mem_nil, false_or, Go.Proofs.YtfhgnlkdcdlblaaGreatDoor.hx, List.headD_cons] at hm ⊢
            exact ib.lt_of hm.1
        | cons u a =>
          cases b with
          | nil =>
            simp only [inA, tl, cond_true, cond_false, List.tail_cons, List.not_mem_nil, or_false, Go.Proofs.YtfhgnlkdcdlblaaGreatDoor.hx, List.headD_cons] at hm ⊢
            exact ia.lt_of hm.1
          | cons y b =>
            rcases Int.lt_trichotomy u y with h1 | h1 | h1
            · have e1 : decide (u ≤ y) = true := decide_eq_true (by omega)
              have e2 : decide (y ≤ u) = false := decide_eq_false (by omega)
              simp only [inA, tl, e1, e2, cond_true, cond_false, List.tail_cons, Go.Proofs.YtfhgnlkdcdlblaaGreatDoor.hx, List.headD_cons] at hm ⊢
              rcases hm.1 with h2 | h2
              · exact ia.lt_of h2
              · rcases List.mem_cons.1 h2 with h2 | h2
                · omega
                · have := ib.lt_of h2; omega
            · have e1 : decide (u ≤ y) = true := decide_eq_true (by omega)
              have e2 : decide (y ≤ u) = true := decide_eq_true (by omega)
              simp only [inA, tl, e1, e2, cond_true, List.tail_cons, Go.Proofs.YtfhgnlkdcdlblaaGreatDoor.hx, List.headD_cons] at hm ⊢
              rcases hm.1 with h2 | h2
              · have := ia.lt_of h2; omega
              · have := ib.lt_of h2; omega
            · have e1 : decide (u ≤ y) = false := decide_eq_false (by omega)
              have e2 : decide (y ≤ u) = true := decide_eq_true (by omega)
              simp only [inA, tl, e1, e2, cond_true, cond_false, List.tail_cons, Go.Proofs.YtfhgnlkdcdlblaaGreatDoor.hx, List.headD_cons] at hm ⊢
              rcases hm.1 with h2 | h2
              · rcases List.mem_cons.1 h2 with h2 | h2
                · omega
                · have := ia.lt_of h2; omega
              · exact ib.lt_of h2

set_option maxHeartbeats 2000000 in
theorem make26_ok {w : World} {ns : List Nat} (hn : ns.length = 57) (hns : ∀ n ∈ ns, n < 256) :
    Ret Tryz.prog 6 [.agg (bys ns).toArray] w fun r w' => Step [] w w' ∧ ∃ vp vs vu aP aS u, r = .tuple #[vp, vs, vu] ∧ AutF w.heap.size w'.heap vp aP ∧ AutF w.heap.size w'.heap vs aS ∧ Pb aP aS ∧
      IntsO 3 w.heap.size w' vu (setK u 5) := by
  refine Ret.of_W Tryz.func6 rfl Tryz.ntmps6 Tryz.results6 (by simp) ?_
  have g0 := bys_at (ns := ns) (j := 0) (by omega)
  have g1 := bys_at (ns := ns) (j := 28) (by omega)
  have g2 := bys_at (ns := ns) (j := 56) (by omega)
  have l0 := getD_lt hns 0
  have l1 := getD_lt hns 28
  have l2 := getD_lt hns 56
  refine exE (ns.getD 0 0) fun m0 hm0 => ?_
  refine exE (ns.getD 28 0) fun m1 hm1 => ?_
  refine exE (ns.getD 56 0) fun m2 hm2 => ?_
  rw [hm0] at g0 l0
  rw [hm1] at g1 l1
  rw [hm2] at g2 l2
  have q0 := setK_len m0 5
  have q1 := setK_len m1 5
  have q2 := setK_len m2 5
  have d0 : ((ns.drop 1).take 27).length = 27 := by simp; omega
  have d1 : ((ns.drop 29).take 27).length = 27 := by simp; omega
  refine W_seq <| W_region (by rfl) ?_
  refine xl rfl <| o_box (us := bys ns) rfl fun b1 w1 hs1 hb1 hB1 => xl rfl <| o_alloc (us := [.slice none 0 0, .int .i64 0, .slice none 0 0, .slice none 0 0]) rfl fun b2 w2 hs2 hb2 hB2 =>
    xl rfl <| o_alloc (us := [.slice none 0 0, .int .i64 0, .slice none 0 0, .slice none 0 0]) rfl fun b3 w3 hs3 hb3 hB3 => x r_assign <| xe ?_
  have hs13 := (hs1.trans hs2).trans hs3
  have hB13 := (hB1.ext hs2).ext hs3
  have hB23 := hB2.ext hs3
  have hz1 := hs1.size
  have hz2 := hs2.size
  have hz3 := hs3.size
  have hl1 := hB1.lt
  have hl2 := hB2.lt
  have hl3 := hB3.lt
  refine W_seq <| W_draw (Step [] w3) [(0, true), (1, true), (2, true), (4, true), (5, true), (6, true), (3, false), (7, false), (8, false)] Tryz.mixed (by rfl) (by kernel_rfl) (Step.drew _ _) ?_
  refine p (fun _ => r_fieldB rfl) <| p (fun _ => r_fieldB rfl) <| pq (fun _ hc => r_loadB (hB13.ext hc) rfl g0) <| p (fun _ => r_fieldB rfl) <|
    p (fun _ => r_fieldB rfl) <| pq (fun _ hc => r_loadsBO (us := bys ((ns.drop 1).take 27)) (hB13.ext hc) rfl (by simp [bys]; omega) bys_sub) <| pk <| xf <| (events3_ok m0 l0 _).mono ?_
  rintro v4 w4 ⟨hs4, ho4⟩
  have hs34 := (Step.drew [] w3).trans hs4
  have hz4 := hs34.size
  refine ⟨hs34, pk <| xf <| (make3_ok (IntsO.ints (L := []) ho4 (by omega) (by simp)) (fun e he => by have := setK_bd m0 5 e he; omega) (setK_inc m0 5) d0 (bys_all hns 1 27)).mono ?_⟩
  rintro vp w5 ⟨hs5, aP, hF5, hkP, hP5, haP⟩
  have hs35 := hs34.trans hs5
  have hz5 := hs5.size
  obtain ⟨pva, pvm, pve, rfl, hPA⟩ := hF5
  have hP0 := hPA [] (by simp)
  refine ⟨hs35, pkl (hl := by kernel_rfl) <| o_stores (us := [pva, .int .i64 aP.st, pvm, pve]) (hB23.ext hs35) rfl rfl rfl rfl ⟨hP0.al.one, rfl, hP0.mr.one, hP0.ed.one, trivial⟩ fun w6 hs6 hB26 => pe ?_⟩
  have hz6 := hs6.size
  have hF6 : AutF w4.heap.size w6.heap (.agg #[pva, .int .i64 aP.st, pvm, pve]) aP := AutF_st1 ⟨pva, pvm, pve, rfl, hPA⟩ (by omega) hs6
  have hB16 := (hB13.ext hs35).step hs6 (by simp; omega)
  have hB36 := (hB3.ext hs35).step hs6 (by simp; omega)
  have hW6 : Step [] w w6 := (hs13.trans hs35).then1 hs6 (by omega)
  have hPA6 : ∀ L : List Nat, (∀ b ∈ L, b < w4.heap.size) → AutA L w6.heap pva pvm pve aP := fun L hL => by
    obtain ⟨x1, x2, x3, e, h⟩ := hF6
    have e' := e
    simp only [Value.agg.injEq, Array.mk.injEq, List.cons.injEq, and_true, true_and] at e'
    obtain ⟨rfl, rfl, rfl⟩ := e'
    exact h L hL
  have hPA60 := hPA6 [] (by simp)
  refine W_seq <| W_draw (Step [] w6) [(0, true), (1, true), (2, true), (4, true), (5, true), (7, true), (8, true), (9, true), (3, false), (6, false), (10, false), (11, false)] Tryz.mixed (by rfl) (by kernel_rfl) (Step.drew _ _) ?_
  refine p (fun _ => r_fieldB rfl) <| p (fun _ => r_fieldB rfl) <| pq (fun _ hc => r_loadB (hB16.ext hc) rfl g1) <| p (fun _ => r_fieldB rfl) <|
    pq (fun _ hc => r_loadB (hB26.ext hc) rfl rfl) <| p (fun _ => r_fieldB rfl) <| p (fun _ => r_fieldB rfl) <| pq (fun _ hc => r_loadsBO (us := bys ((ns.drop 29).take 27)) (hB16.ext hc) rfl (by simp [bys]; omega) bys_sub) <|
    pk <| xf <| (events3_ok m1 l1 _).mono ?_
  rintro v7 w7 ⟨hs7, ho7⟩
  have hs67 := (Step.drew [] w6).trans hs7
  have halP := hkP.al_le
  refine ⟨hs67, pk <| xf <| (Intersect_ok (IntsO.ints (L := []) ho7 (by omega) (by simp)) (hPA60.al.ext hs67) (by omega)).mono ?_⟩
  rintro v8 w8 ⟨hs8, ho8⟩
  have hs68 := hs67.trans hs8
  have qm := mrg_len (· && ·) (setK m1 5) aP.al
  have hmi := mrg_inc (· && ·) _ (setK m1 5) aP.al (Nat.le_refl _) (setK_inc m1 5) hkP.ali
  have hmm := fun x => mem_mrg (keep := (· && ·)) (setK_inc m1 5) hkP.ali x
  refine ⟨hs68, pk <| xf <| (make3_ok (IntsO.ints (L := []) ho8 (by omega) (by simp)) (fun e he => by
    have h1 := (hmm e).1 he
    have h2 : e ∈ aP.al := by have := h1.2; simp at this; exact this.2
    exact hkP.al e h2) hmi d1 (bys_all hns 29 27)).mono ?_⟩
  rintro vs w9 ⟨hs9, aS, hF9, hkS, hS5, haS⟩
  have hs69 := hs68.trans hs9
  have hz68 := hs68.size
  have hz9 := hs9.size
  obtain ⟨sva, svm, sve, rfl, hSA⟩ := hF9
  have hS0 := hSA [] (by simp)
  refine ⟨hs69, pkl (hl := by kernel_rfl) <| o_stores (us := [sva, .int .i64 aS.st, svm, sve]) (hB36.ext hs69) rfl rfl rfl rfl ⟨hS0.al.one, rfl, hS0.mr.one, hS0.ed.one, trivial⟩ fun w10 hs10 hB310 => pe ?_⟩
  have hz10 := hs10.size
  have hF10 : AutF w8.heap.size w10.heap (.agg #[sva, .int .i64 aS.st, svm, sve]) aS := AutF_st1 ⟨sva, svm, sve, rfl, hSA⟩ (by omega) hs10
  have hFP10 : AutF w4.heap.size w10.heap (.agg #[pva, .int .i64 aP.st, pvm, pve]) aP := AutF_st1 (hF6.ext hs69) (by omega) hs10
  have hB110 := (hB16.ext hs69).step hs10 (by simp; omega)
  have hB210 := (hB26.ext hs69).step hs10 (by simp; omega)
  have hW10 : Step [] w w10 := (hW6.trans hs69).then1 hs10 (by omega)
  refine W_seq <| W_draw (fun w' => Step [b2, b3] w10 w' ∧ Blk w'.heap b2 35 [pva, .int .i64 aP.st, pvm, pve] ∧ Blk w'.heap b3 35 [sva, .int .i64 aS.st, svm, sve]) [(0, true), (1, true), (2, true), (3, true), (4, false), (5, false), (6, false), (7, true)] Tryz.mixed (by rfl) (by kernel_rfl)
    ⟨Step.drew _ _, hB210.ext (Step.drew _ _), hB310.ext (Step.drew _ _)⟩ ?_
  refine pq (fun _ hc => r_loadsB hc.2.1 rfl rfl) <| pq (fun _ hc => r_loadsB hc.2.2 rfl rfl) <| p (fun _ => r_fieldB rfl) <|
    pq (fun _ hc => r_loadB (hB110.step hc.1 (by simp; omega)) rfl g2) <| pk <| xf <| (events3_ok m2 l2 _).mono ?_
  rintro vu w11 ⟨hs11, ho11⟩
  have hs1011 := (Step.drew [] w10).trans hs11
  have hB211 := hB210.ext hs1011
  have hB311 := hB310.ext hs1011
  have hz11 := hs1011.size
  refine ⟨⟨hs1011.any, hB211, hB311⟩, pk <| o_stores (us := [pva, .int .i64 aP.st, pvm, pve]) hB211 rfl rfl rfl rfl ⟨hP0.al.one, rfl, hP0.mr.one, hP0.ed.one, trivial⟩ fun w12 hs12 hB212 => ?_⟩
  have hB312 := hB311.step hs12 (by simp; omega)
  refine ⟨⟨(hs1011.any (L := [b2, b3])).trans' (hs12.mono (by simp)), hB212, hB312⟩, pk <| o_stores (us := [sva, .int .i64 aS.st, svm, sve]) hB312 rfl rfl rfl rfl ⟨hS0.al.one, rfl, hS0.mr.one, hS0.ed.one, trivial⟩ fun w13 hs13' hB313 => ?_⟩
  have hB213 := hB212.step hs13' (by simp; omega)
  refine ⟨⟨((hs1011.any (L := [b2, b3])).trans' (hs12.mono (by simp))).trans' (hs13'.mono (by simp)), hB213, hB313⟩, p (fun _ => r_assign) <| pe ?_⟩
  have hWF : Step [] w w13 := ((hW10.trans hs1011).then1 hs12 (by omega)).then1 hs13' (by omega)
  have ho13 : IntsO 3 w10.heap.size w13 vu (setK m2 5) := own_step (own_step ho11 hs12 (fun b hb => by have h' : w10.heap.size ≤ b := (own_ge ho11 b hb).1; simp; omega)) hs13' (fun b hb => by have h' : w10.heap.size ≤ b := (own_ge ho11 b hb).1; simp; omega)
  have hFP13 := AutF_st1 (AutF_st1 (hFP10.ext hs1011) (by omega) hs12) (by omega : b3 < w4.heap.size) hs13'
  have hFS13 := AutF_st1 (AutF_st1 (hF10.ext hs1011) (by omega) hs12) (by omega : b3 < w8.heap.size) hs13'
  refine W_ret ⟨[.agg #[pva, .int .i64 aP.st, pvm, pve], .agg #[sva, .int .i64 aS.st, svm, sve], vu], ⟨⟨_, rfl, run_loadVar_ag rfl (hB213.at (L := []) (by simp)).cells⟩, ⟨_, rfl, run_loadVar_ag rfl (hB313.at (L := []) (by simp)).cells⟩, rfl, trivial⟩, hWF,
    _, _, vu, aP, aS, m2, rfl, hFP13.mono (by omega), hFS13.mono (by omega), ⟨hkP, hkS, hP5, hS5, fun x hx => ?_⟩, own_base ho13 (by omega)⟩
  rw [haS] at hx
  have h1 := (hmm x).1 hx
  have := h1.2
  simp at this
  exact this.2
end Go.Proofs.YtfhgnlkdcdlblaaGreatDoor
/- Merged out of the texts Ta Dg Dh Tb Di. -/
/- The Controls as the definition says: plain law for SupervisorMaps. -/
namespace Go.Proofs.YtfhgnlkdcdlblaaGreatDoor
open Go.Lg

theorem Inc.ext : ∀ {a b : List Int}, Inc a → Inc b → (∀ x, x ∈ a ↔ x ∈ b) → a = b
  | [], [], _, _, _ => rfl
  | [], y :: b, _, _, h => by have := (h y).2 List.mem_cons_self; cases this
  | x :: a, [], _, _, h => by have := (h x).1 List.mem_cons_self; cases this
  | x :: a, y :: b, ia, ib, h => by
    have e : x = y := by
      have h1 := (h x).1 List.mem_cons_self
      have h2 := (h y).2 List.mem_cons_self
      rcases List.mem_cons.1 h1 with h1 | h1
      · exact h1
      · rcases List.mem_cons.1 h2 with h2 | h2
        · exact h2.symm
        · have := ib.lt_of h1; have := ia.lt_of h2; omega
    subst e
    congr 1
    refine Inc.ext ia.tail ib.tail fun z => ?_
    have hz := h z
    constructor
    · intro hm
      have := hz.1 (List.mem_cons_of_mem _ hm)
      rcases List.mem_cons.1 this with h1 | h1
      · have := ia.lt_of hm; omega
      · exact h1
    · intro hm
      have := hz.2 (List.mem_cons_of_mem _ hm)
      rcases List.mem_cons.1 this with h1 | h1
      · have := ib.lt_of hm; omega
      · exact h1
theorem uni1_mem {l : List Int} (h : Inc l) (v x : Int) : x ∈ uni1 l v ↔ x ∈ l ∨ x = v := by
  unfold uni1
  rw [mem_mrg h (by simp)]
  simp
theorem uni1_inc {l : List Int} (h : Inc l) (v : Int) : Inc (uni1 l v) := mrg_inc _ _ l [v] (Nat.le_refl _) h (by simp)
theorem nxt_eget (es : List Ed) (s v : Int) : nxt es s v = match eget es s v with | some u => u | none => -1 := by
  induction es with
  | nil => rfl
  | cons e es ih =>
    rw [nxt, eget]
    split
    · rfl
    · exact ih
theorem nxt_nonneg {a : Aut} (ho : Okay a) (s v : Int) : 0 ≤ nxt a.ed s v ↔ (eget a.ed s v).isSome = true := by
  rw [nxt_eget]
  cases h : eget a.ed s v with
  | none => simp
  | some u => simp; exact (ho.ed _ (eget_mem h)).2.2.2.1
/-! ### The definition -/
def canX (p : Aut) (pairs : List (List Int)) (x e : Int) : Bool := pairs.any fun q => decide (py q = x) && decide (0 ≤ nxt p.ed (px q) e)
def ctlD (p s : Aut) (pairs : List (List Int)) (x : Int) : Ctl :=
  ⟨s.al.filter fun e => canX p pairs x e && decide (0 ≤ nxt s.ed x e), s.al.filter fun e => canX p pairs x e && !decide (0 ≤ nxt s.ed x e),
    (pairs.any fun q => decide (py q = x)) && decide (x ∈ s.mr), pairs.any fun q => decide (py q = x) && decide (px q ∈ p.mr)⟩
/-- A Control after the pairs so far. -/
structure CtlI (p s : Aut) (pairs : List (List Int)) (x : Int) (c : Ctl) : Prop where
  ei : Inc c.en
  di : Inc c.dis
  em : ∀ e, e ∈ c.en ↔ e ∈ s.al ∧ canX p pairs x e = true ∧ 0 ≤ nxt s.ed x e
  dm : ∀ e, e ∈ c.dis ↔ e ∈ s.al ∧ canX p pairs x e = true ∧ ¬ 0 ≤ nxt s.ed x e
  mk2 : c.mk' = ((pairs.any fun q => decide (py q = x)) && decide (x ∈ s.mr))
  ps : c.ps = pairs.any fun q => decide (py q = x) && decide (px q ∈ p.mr)
theorem CtlI.eq {p s : Aut} {pairs : List (List Int)} {x : Int} {c : Ctl} (h : CtlI p s pairs x c) (hi : Inc s.al) : c = ctlD p s pairs x := by
  obtain ⟨en, dis, mk', ps⟩ := c
  have e1 : en = s.al.filter fun e => canX p pairs x e && decide (0 ≤ nxt s.ed x e) := by
    refine Inc.ext h.ei (List.Pairwise.sublist List.filter_sublist hi) fun e => ?_
    rw [h.em e, List.mem_filter]; simp
  have e2 : dis = s.al.filter fun e => canX p pairs x e && !decide (0 ≤ nxt s.ed x e) := by
    refine Inc.ext h.di (List.Pairwise.sublist List.filter_sublist hi) fun e => ?_
    rw [h.dm e, List.mem_filter]; simp
  have e3 := h.mk2
  have e4 := h.ps
  simp only [] at e3 e4
  unfold ctlD
  rw [e1, e2, e3, e4]
theorem CtlI.zero (p s : Aut) (x : Int) : CtlI p s [] x ctl0 := ⟨by simp [ctl0], by simp [ctl0], by simp [ctl0, canX], by simp [ctl0, canX], by simp [ctl0], by simp [ctl0]⟩
theorem CtlI.other {p s : Aut} {pairs : List (List Int)} {x : Int} {c : Ctl} (h : CtlI p s pairs x c) {q : List Int} (hq : py q ≠ x) : CtlI p s (pairs ++ [q]) x c := by
  have hc : ∀ e, canX p (pairs ++ [q]) x e = canX p pairs x e := fun e => by unfold canX; rw [List.any_append]; simp [hq]
  refine ⟨h.ei, h.di, fun e => by rw [hc]; exact h.em e, fun e => by rw [hc]; exact h.dm e, ?_, ?_⟩
  · rw [h.mk2, List.any_append]; simp [hq]
  · rw [h.ps, List.any_append]; simp [hq]
/-- The events of a pair. -/
theorem ctlE_fold {p s : Aut} (hp : Okay p) (hs : Okay s) (x y : Int) : ∀ (vs : List Int) (c : Ctl), Inc c.en → Inc c.dis →
    Inc (vs.foldl (ctlE p s x y) c).en ∧ Inc (vs.foldl (ctlE p s x y) c).dis ∧ (vs.foldl (ctlE p s x y) c).mk' = c.mk' ∧ (vs.foldl (ctlE p s x y) c).ps = c.ps ∧
    (∀ e, e ∈ (vs.foldl (ctlE p s x y) c).en ↔ e ∈ c.en ∨ (e ∈ vs ∧ 0 ≤ nxt p.ed x e ∧ 0 ≤ nxt s.ed y e)) ∧ (∀ e, e ∈ (vs.foldl (ctlE p s x y) c).dis ↔ e ∈ c.dis ∨ (e ∈ vs ∧ 0 ≤ nxt p.ed x e ∧ ¬ 0 ≤ nxt s.ed y e))
  | [], c, h1, h2 => ⟨h1, h2, rfl, rfl, fun e => by simp, fun e => by simp⟩
  | v :: vs, c, h1, h2 => by
    rw [List.foldl_cons]
    have np := nxt_nonneg hp x v
    have ns := nxt_nonneg hs y v
    unfold ctlE
    cases hep : eget p.ed x v with
    | none =>
      rw [hep] at np
      obtain ⟨i1, i2, i3, i4, i5, i6⟩ := ctlE_fold hp hs x y vs c h1 h2
      unfold ctlE at i1 i2 i3 i4 i5 i6
      refine ⟨i1, i2, i3, i4, fun e => ?_, fun e => ?_⟩
      · rw [i5 e]
        constructor
        · rintro (h | h)
          · exact .inl h
          · exact .inr ⟨List.mem_cons_of_mem _ h.1, h.2⟩
        · rintro (h | ⟨h, h3, h4⟩)
          · exact .inl h
          · rcases List.mem_cons.1 h with rfl | h
            · have := np.1 h3; cases this
            · exact .inr ⟨h, h3, h4⟩
      · rw [i6 e]
        constructor
        · rintro (h | h)
          · exact .inl h
          · exact .inr ⟨List.mem_cons_of_mem _ h.1, h.2⟩
        · rintro (h | ⟨h, h3, h4⟩)
          · exact .inl h
          · rcases List.mem_cons.1 h with rfl | h
            · have := np.1 h3; cases this
            · exact .inr ⟨h, h3, h4⟩
    | some t =>
      rw [hep] at np
      have hpv : 0 ≤ nxt p.ed x v := np.2 rfl
      cases hes : eget s.ed y v with
      | some u =>
        rw [hes] at ns
        have hsv : 0 ≤ nxt s.ed y v := ns.2 rfl
        obtain ⟨i1, i2, i3, i4, i5, i6⟩ := ctlE_fold hp hs x y vs ⟨uni1 c.en v, c.dis, c.mk', c.ps⟩ (uni1_inc h1 v) h2
        unfold ctlE at i1 i2 i3 i4 i5 i6
        refine ⟨i1, i2, i3, i4, fun e => ?_, fun e => ?_⟩
        · rw [i5 e, uni1_mem h1]
          constructor
          · rintro ((h | rfl) | h)
            · exact .inl h
            · exact .inr ⟨List.mem_cons_self, hpv, hsv⟩
            · exact .inr ⟨List.mem_cons_of_mem _ h.1, h.2⟩
          · rintro (h | ⟨h, h3⟩)
            · exact .inl (.inl h)
            · rcases List.mem_cons.1 h with rfl | h
              · exact .inl (.inr rfl)
              · exact .inr ⟨h, h3⟩
        · rw [i6 e]
          constructor
          · rintro (h | h)
            · exact .inl h
            · exact .inr ⟨List.mem_cons_of_mem _ h.1, h.2⟩
          · rintro (h | ⟨h, h3, h4⟩)
            · exact .inl h
            · rcases List.mem_cons.1 h with rfl | h
              · exact absurd hsv h4
              · exact .inr ⟨h, h3, h4⟩
      | none =>
        rw [hes] at ns
        have hsv : ¬ 0 ≤ nxt s.ed y v := fun h => by have := ns.1 h; cases this
        obtain ⟨i1, i2, i3, i4, i5, i6⟩ := ctlE_fold hp hs x y vs ⟨c.en, uni1 c.dis v, c.mk', c.ps⟩ h1 (uni1_inc h2 v)
        unfold ctlE at i1 i2 i3 i4 i5 i6
        refine ⟨i1, i2, i3, i4, fun e => ?_, fun e => ?_⟩
        · rw [i5 e]
          constructor
          · rintro (h | h)
            · exact .inl h
            · exact .inr ⟨List.mem_cons_of_mem _ h.1, h.2⟩
          · rintro (h | ⟨h, h3, h4⟩)
            · exact .inl h
            · rcases List.mem_cons.1 h with rfl | h
              · exact absurd h4 hsv
              · exact .inr ⟨h, h3, h4⟩
        · rw [i6 e, uni1_mem h2]
          constructor
          · rintro ((h | rfl) | h)
            · exact .inl h
            · exact .inr ⟨List.mem_cons_self, hpv, hsv⟩
            · exact .inr ⟨List.mem_cons_of_mem _ h.1, h.2⟩
          · rintro (h | ⟨h, h3⟩)
            · exact .inl (.inl h)
            · rcases List.mem_cons.1 h with rfl | h
              · exact .inl (.inr rfl)
              · exact .inr ⟨h, h3⟩
theorem CtlI.pair {p s : Aut} (hp : Okay p) (hs : Okay s) {pairs : List (List Int)} {c : Ctl} {q : List Int} (h : CtlI p s pairs (py q) c) : CtlI p s (pairs ++ [q]) (py q) (ctlP p s (px q) (py q) c) := by
  unfold ctlP
  obtain ⟨i1, i2, i3, i4, i5, i6⟩ := ctlE_fold hp hs (px q) (py q) s.al (ctlB p s (px q) (py q) c) h.ei h.di
  have hc : ∀ e, canX p (pairs ++ [q]) (py q) e = true ↔ canX p pairs (py q) e = true ∨ 0 ≤ nxt p.ed (px q) e := fun e => by unfold canX; rw [List.any_append]; simp
  refine ⟨i1, i2, fun e => ?_, fun e => ?_, ?_, ?_⟩
  · rw [i5 e, hc]
    show e ∈ c.en ∨ _ ↔ _
    rw [h.em e]
    constructor
    · rintro (⟨a1, a2, a3⟩ | ⟨a1, a2, a3⟩)
      · exact ⟨a1, .inl a2, a3⟩
      · exact ⟨a1, .inr a2, a3⟩
    · rintro ⟨a1, a2 | a2, a3⟩
      · exact .inl ⟨a1, a2, a3⟩
      · exact .inr ⟨a1, a2, a3⟩
  · rw [i6 e, hc]
    show e ∈ c.dis ∨ _ ↔ _
    rw [h.dm e]
    constructor
    · rintro (⟨a1, a2, a3⟩ | ⟨a1, a2, a3⟩)
      · exact ⟨a1, .inl a2, a3⟩
      · exact ⟨a1, .inr a2, a3⟩
    · rintro ⟨a1, a2 | a2, a3⟩
      · exact .inl ⟨a1, a2, a3⟩
      · exact .inr ⟨a1, a2, a3⟩
  · rw [i3, List.any_append]
    simp [ctlB]
  · rw [i4, List.any_append]
    show (c.ps || _) = _
    rw [h.ps]; simp
theorem ctls_def {p s : Aut} (hp : Okay p) (hs : Okay s) {pairs : List (List Int)} (hv : ∀ q ∈ pairs, Vt [p, s] q) : ∀ x, x < s.st.toNat → lget (ctls p s pairs) x = ctlD p s pairs x := by
  have key : ∀ (r pre : List (List Int)) (l : List Ctl), (∀ q ∈ r, Vt [p, s] q) → l.length = s.st.toNat → (∀ x, x < s.st.toNat → CtlI p s pre x (lget l x)) → ∀ x, x < s.st.toNat → CtlI p s (pre ++ r) x (lget (r.foldl (ctlQ p s) l) x) := by
    intro r
    induction r with
    | nil => intro pre l _ _ h x hx; simpa using h x hx
    | cons q r ih =>
      intro pre l hr hl h x hx
      obtain ⟨xi, yi, rfl, hx1, hy1⟩ := Vt2 (hr q List.mem_cons_self)
      rw [List.foldl_cons, show pre ++ [(xi : Int), (yi : Int)] :: r = (pre ++ [[(xi : Int), (yi : Int)]]) ++ r by simp]
      refine ih _ _ (fun q hq => hr q (List.mem_cons_of_mem _ hq)) (by simp [ctlQ, hl]) (fun z hz => ?_) x hx
      have e1 : py [(xi : Int), (yi : Int)] = (yi : Int) := rfl
      have e2 : px [(xi : Int), (yi : Int)] = (xi : Int) := rfl
      unfold ctlQ
      rw [e1, e2, Int.toNat_natCast]
      by_cases ez : z = yi
      · subst ez
        have e3 : lget (l.set z (ctlP p s xi z (l.getD z ctl0))) z = ctlP p s xi z (lget l z) := by
          unfold lget
          simp only [List.getD]
          rw [List.getElem?_set_self (by omega)]; rfl
        rw [e3]
        have := CtlI.pair hp hs (q := [(xi : Int), (z : Int)]) (c := lget l z) (h z hz)
        exact this
      · have e3 : lget (l.set yi (ctlP p s xi yi (l.getD yi ctl0))) z = lget l z := by
          unfold lget
          simp only [List.getD, List.getElem?_set]
          rw [if_neg (fun e => ez e.symm)]
        rw [e3]
        exact (h z hz).other (by rw [e1]; omega)
  intro x hx
  have h1 := key pairs [] (List.replicate s.st.toNat ctl0) hv (by simp) (fun z hz => by
    have : lget (List.replicate s.st.toNat ctl0) z = ctl0 := by unfold lget; simp [List.getD, hz]
    rw [this]; exact CtlI.zero p s z) x hx
  rw [List.nil_append] at h1
  exact h1.eq hs.ali
end Go.Proofs.YtfhgnlkdcdlblaaGreatDoor

/- Contracts: supervisor.Loop; automaton.Equal and law30's same where both are equal. -/
namespace Go.Proofs.YtfhgnlkdcdlblaaGreatDoor
open Go.Lg

theorem Loop_ok {L : List Nat} {w : World} {pva pvm pve sa sm se : Value} {aP aS : Aut} (hp : AutA L w.heap pva pvm pve aP) (hs : AutA L w.heap sa sm se aS) (hst : Okay aP → Okay aS → aP.st ≤ 100 ∧ aS.st ≤ 100) :
    Ret Tryz.prog 10 [.agg #[pva, .int .i64 aP.st, pvm, pve], .agg #[sa, .int .i64 aS.st, sm, se]] w fun r w' => Step [] w w' ∧ ∃ v, r = .tuple #[v, .int .i64 (opE aP aS)] ∧
      (opE aP aS ≠ 0 → v = zA) ∧ (opE aP aS = 0 → AutF w.heap.size w'.heap v (opA aP aS)) := by
  refine Ret.of_W Tryz.func10 rfl Tryz.ntmps10 Tryz.results10 (by simp) ?_
  refine W_seq <| W_region (by rfl) ?_
  refine xl rfl <| o_box (us := [pva, .int .i64 aP.st, pvm, pve]) rfl fun b2 w1 hs1 hb2 hB2 => xl rfl <| o_box (us := [sa, .int .i64 aS.st, sm, se]) rfl fun b3 w2 hs2 hb3 hB3 =>
    xl rfl <| o_alloc (us := [.slice none 0 0, .int .i64 0, .slice none 0 0, .slice none 0 0]) rfl fun b4 w3 hs3 hb4 hB4 => x r_assign <| xe ?_
  have hs13 := (hs1.trans hs2).trans hs3
  have hz1 := hs1.size
  have hz2 := hs2.size
  have hl4 := hB4.lt
  refine W_seq <| W_region (by rfl) ?_
  refine x (r_loadsB ((hB2.ext hs2).ext hs3) rfl rfl) <| x (r_loadsB (hB3.ext hs3) rfl rfl) <| xl rfl <| xf <| (sopen_ok (hp.ext hs13) (hs.ext hs13) hst).mono ?_
  rintro r4 w4 ⟨hs4, va, vt, rfl, hO⟩
  obtain ⟨us, hva, husl, hus⟩ := hO.shape
  refine x r_move <| x (r_extract rfl rfl) <|
    x (r_extract rfl rfl) <| x (r_extract rfl rfl) <| xl rfl <| o_alloc (us := [.slice none 0 0, .int .i64 0, .slice none 0 0, .slice none 0 0]) rfl fun b6 w5 hs5 hb6 hB6 => xl rfl <| o_stores (us := us) hB6 rfl hva husl rfl hus fun w6 hs6 hB6' =>
    x r_assign <| x r_assign <| xe ?_
  have hs46 : Step [] w4 w6 := hs5.then1 hs6 hb6
  have hs36 := hs4.trans hs46
  have hz3 := hs3.size
  have hz13 := hs13.size
  refine W_seq <| W_region (by rfl) ?_
  refine x (r_loadsB hB6' rfl husl) <| x r_move <| xl rfl <| o_stores (us := us) (hB4.ext hs36) rfl rfl husl rfl hus fun w7 hs7 hB7 => x r_assign <| xe ?_
  refine W_ret ⟨[.agg us.toArray, .int .i64 (opE aP aS)], ⟨⟨_, rfl, run_loadVar_ag husl (hB7.at (L := []) (by simp)).cells⟩, rfl, trivial⟩, (hs13.trans hs36).then1 hs7 (by omega), va, by rw [hva]; rfl, fun e => (hO.bad e).1, fun e => ?_⟩
  exact (AutF_st1 ((hO.good e).1.ext hs46) (by omega) hs7).mono hz13

theorem Equal_same {L L' : List Nat} {w : World} {va vm ve va' vm' ve' : Value} {a : Aut} (h : AutA L w.heap va vm ve a) (h' : AutA L' w.heap va' vm' ve' a) :
    Ret Tryz.prog 57 [.agg #[va, .int .i64 a.st, vm, ve], .agg #[va', .int .i64 a.st, vm', ve']] w fun r w' => r = .bool true ∧ Step [] w w' := by
  refine Ret.of_W Tryz.func57 rfl Tryz.ntmps57 Tryz.results57 (by simp) ?_
  refine W_seq <| W_region (by rfl) ?_
  refine xl rfl <| o_box (us := [va, .int .i64 a.st, vm, ve]) rfl fun b2 w1 hs1 hb2 hB2 => xl rfl <| o_box (us := [va', .int .i64 a.st, vm', ve']) rfl fun b3 w2 hs2 hb3 hB3 => x r_assign <| xe ?_
  have hs12 := hs1.trans hs2
  have hB22 := hB2.ext hs2
  refine W_seq <| W_region (by rfl) ?_
  refine x (r_fieldB rfl) <| x (r_loadB hB22 rfl rfl) <| x (r_fieldB rfl) <| x (r_loadB hB3 rfl rfl) <| xb (r_eql rfl rfl) (fun _ => ?_) (fun h9 => absurd rfl h9)
  refine x r_move <| x (r_fieldB rfl) <| x (r_loadB hB22 rfl rfl) <| x (r_fieldB rfl) <| x (r_loadB hB3 rfl rfl) <| xl rfl <| xf <| (equalI_ok (h.al.ext hs12) (h'.al.ext hs12)).mono ?_
  rintro r3 w3 ⟨hr3, hs3⟩
  rw [decide_eq_true rfl] at hr3
  subst hr3
  have hs13 := hs12.trans hs3
  refine x (r_pick rfl) <|
    x r_move <| x (r_fieldB rfl) <| x (r_loadB (hB22.ext hs3) rfl rfl) <| x (r_fieldB rfl) <| x (r_loadB (hB3.ext hs3) rfl rfl) <|
    xl rfl <| xf <| (equalI_ok (h.mr.ext hs13) (h'.mr.ext hs13)).mono ?_
  rintro r4 w4 ⟨hr4, hs4⟩
  rw [decide_eq_true rfl] at hr4
  subst hr4
  have hs14 := hs13.trans hs4
  have hs34 := hs3.trans hs4
  refine x (r_pick rfl) <| x r_move <| x (r_fieldB rfl) <| x (r_loadB (hB22.ext hs34) rfl rfl) <|
    x (r_fieldB rfl) <| x (r_loadB (hB3.ext hs34) rfl rfl) <| xl rfl <| xf <| (equalE_ok (h.ed.ext hs14) (h'.ed.ext hs14)).mono ?_
  rintro r5 w5 ⟨hr5, hs5⟩
  rw [decide_eq_true rfl] at hr5
  subst hr5
  refine x (r_pick rfl) <| x r_assign <| xe ?_
  exact W_ret ⟨[.bool true], ⟨rfl, trivial⟩, rfl, hs14.trans hs5⟩

end Go.Proofs.YtfhgnlkdcdlblaaGreatDoor

/- Contract: law30's control. -/
namespace Go.Lg
section
variable {P : Program} {f : Fr} {w : World} {d : Option Nat} {ty : Nat} {ps : String} {af : Array Edge} {gd : Option (Nat × Bool)}
theorem r_moveV {x : Operand} {v : Value} (h : ev f x = v) : (execOp (ev f) ⟨d, .move x, ty, ps, af, gd⟩).run P w = .ok (.value v) w := by rw [← h]; exact r_move
end
end Go.Lg
namespace Go.Proofs.YtfhgnlkdcdlblaaGreatDoor
open Go.Lg

theorem filter_snoc {l : List Int} {e : Int} {p : Int → Bool} : (l ++ [e]).filter p = if p e = true then l.filter p ++ [e] else l.filter p := by
  rw [List.filter_append]
  by_cases h : p e = true
  · rw [if_pos h, List.filter_cons, if_pos h]; rfl
  · rw [if_neg h, List.filter_cons, if_neg h, List.filter_nil, List.append_nil]
/-- What the loops hold. -/
structure CcI (w4 : World) (b : Nat) (m q : Bool) (ve vd : Value) (E D : List Int) (w : World) : Prop where
  st : Step [b] w4 w
  B : Blk w.heap b 69 [ve, vd, .bool m, .bool q]
  e : IntsO 3 w4.heap.size w ve E
  d : IntsO 3 w4.heap.size w vd D
  dj : Dj ve vd
section
variable {w4 w w' w'' : World} {b : Nat} {m q : Bool} {ve vd : Value} {E D : List Int}
theorem CcI.ext (h : CcI w4 b m q ve vd E D w) (hs : Step [] w w') : CcI w4 b m q ve vd E D w' := ⟨h.st.trans hs, h.B.ext hs, own_ext h.e hs, own_ext h.d hs, h.dj⟩
theorem CcI.setE (h : CcI w4 b m q ve vd E D w) (hb : b < w4.heap.size) {ve' : Value} {E' : List Int} (hs : Step (ob ve) w w') (hm : IntsO 3 w4.heap.size w' ve' E') (hn : ∀ b ∈ ob ve', b ∈ ob ve ∨ w.heap.size ≤ b) (hs2 : Step [b] w' w'')
    (hB : Blk w''.heap b 69 [ve', vd, .bool m, .bool q]) : CcI w4 b m q ve' vd E' D w'' :=
  ⟨(h.st.then hs (fun c hc => .inr (own_ge h.e c hc).1)).trans' hs2, hB, own_step hm hs2 (fun c hc => by have := (own_ge hm c hc).1; simp; omega),
    own_step (own_step h.d hs h.dj.symm) hs2 (fun c hc => by have := (own_ge h.d c hc).1; simp; omega), (h.dj.symm.grow hn (own_lt h.d)).symm⟩
theorem CcI.setD (h : CcI w4 b m q ve vd E D w) (hb : b < w4.heap.size) {vd' : Value} {D' : List Int} (hs : Step (ob vd) w w') (hm : IntsO 3 w4.heap.size w' vd' D') (hn : ∀ b ∈ ob vd', b ∈ ob vd ∨ w.heap.size ≤ b) (hs2 : Step [b] w' w'')
    (hB : Blk w''.heap b 69 [ve, vd', .bool m, .bool q]) : CcI w4 b m q ve vd' E D' w'' :=
  ⟨(h.st.then hs (fun c hc => .inr (own_ge h.d c hc).1)).trans' hs2, hB, own_step (own_step h.e hs h.dj) hs2 (fun c hc => by have := (own_ge h.e c hc).1; simp; omega),
    own_step hm hs2 (fun c hc => by have := (own_ge hm c hc).1; simp; omega), h.dj.grow hn (own_lt h.e)⟩
theorem CcI.setB (h : CcI w4 b m q ve vd E D w) (hb : b < w4.heap.size) {m' q' : Bool} (hs : Step [b] w w') (hB : Blk w'.heap b 69 [ve, vd, .bool m', .bool q']) : CcI w4 b m' q' ve vd E D w' :=
  ⟨h.st.trans' hs, hB, own_step h.e hs (fun c hc => by have := (own_ge h.e c hc).1; simp; omega), own_step h.d hs (fun c hc => by have := (own_ge h.d c hc).1; simp; omega), h.dj⟩
end
def hitQ (p : Aut) (x e : Int) (q : List Int) : Bool := decide (py q = x) && decide (0 ≤ nxt p.ed (px q) e)
theorem canX_take (p : Aut) (x e : Int) {ps : List (List Int)} {k : Nat} (h : k < ps.length) : canX p (ps.take (k + 1)) x e = (canX p (ps.take k) x e || hitQ p x e ps[k]) := by
  unfold canX hitQ
  rw [List.take_succ_eq_append_getElem h, List.any_append]; simp

end Go.Proofs.YtfhgnlkdcdlblaaGreatDoor

/- The product of a plant and a supervisor of at most 5 states is found. -/
namespace Go.Proofs.YtfhgnlkdcdlblaaGreatDoor
open Go.Lg

def encT (t : List Int) : Int := px t * 5 + py t
theorem tup_small {aP aS : Aut} (h : Pb aP aS) {s : Sy} (hs : SyOk [aP, aS] s) (hd : s.tup.Nodup) : s.tup.length ≤ 25 := by
  have h1 : (s.tup.map encT).Nodup := by
    unfold List.Nodup
    rw [List.pairwise_map]
    refine List.Pairwise.imp_of_mem (fun {a b} ha hb hne => ?_) hd
    obtain ⟨x1, y1, rfl, p1, q1⟩ := Vt2 (hs.v a ha)
    obtain ⟨x2, y2, rfl, p2, q2⟩ := Vt2 (hs.v b hb)
    intro e
    have e' : (x1 : Int) * 5 + y1 = x2 * 5 + y2 := e
    have := h.p5
    have := h.s5
    have ex : x1 = x2 := by omega
    have ey : y1 = y2 := by omega
    exact hne (by rw [ex, ey])
  have h2 := pig 25 (s.tup.map encT) h1 (fun z hz => by
    obtain ⟨t, ht, rfl⟩ := List.mem_map.1 hz
    obtain ⟨x1, y1, rfl, p1, q1⟩ := Vt2 (hs.v t ht)
    have := h.p5
    have := h.s5
    show 0 ≤ (x1 : Int) * 5 + y1 ∧ (x1 : Int) * 5 + y1 < 25
    omega)
  simpa using h2
theorem syE_some {aP aS : Aut} (h : Pb aP aS) {s : Sy} (hs : SyOk [aP, aS] s) (hd : s.tup.Nodup) (i : Nat) (t : List Int) (v : Int) : ∃ s', syE [aP, aS] i t s v = some s' ∧ s'.tup.Nodup := by
  have hl := tup_small h hs hd
  unfold syE
  cases stepT v [aP, aS] t with
  | none => exact ⟨s, rfl, hd⟩
  | some u =>
    simp only []
    by_cases hu : u ∈ s.tup
    · rw [if_pos hu]; exact ⟨_, rfl, hd⟩
    · rw [if_neg hu, if_neg (by omega)]
      refine ⟨_, rfl, ?_⟩
      simp only []
      rw [List.nodup_append]
      exact ⟨hd, by simp, fun a ha b hb => by simp only [List.mem_singleton] at hb; subst hb; exact fun e => hu (by rw [← e]; exact ha)⟩
theorem syEs_some {aP aS : Aut} (h : Pb aP aS) (ho : ∀ a ∈ [aP, aS], Okay a) {i : Nat} {t : List Int} (ht : Vt [aP, aS] t) : ∀ (vs : List Int) (s : Sy), SyOk [aP, aS] s → s.tup.Nodup → ∃ s', syEs [aP, aS] i t vs s = some s' ∧ s'.tup.Nodup
  | [], s, _, hd => ⟨s, rfl, hd⟩
  | v :: vs, s, hs, hd => by
    obtain ⟨s1, h1, h2⟩ := syE_some h hs hd i t v
    obtain ⟨s2, h3, h4⟩ := syEs_some h ho ht vs s1 (syE_ok ho hs ht h1) h2
    exact ⟨s2, by rw [syEs, h1]; exact h3, h4⟩
theorem syL_some {aP aS : Aut} (h : Pb aP aS) (ho : ∀ a ∈ [aP, aS], Okay a) : ∀ (f i : Nat) (s : Sy), SyOk [aP, aS] s → s.tup.Nodup → ∃ s', syL [aP, aS] f i s = some s'
  | 0, _, s, _, _ => ⟨s, rfl⟩
  | f + 1, i, s, hs, hd => by
    rw [syL]
    split
    · rename_i hi
      have hv : Vt [aP, aS] (syT s i) := hs.v _ (by unfold syT; simp [List.getD, hi])
      have hm : (syMark [aP, aS] i (syT s i) s).tup = s.tup := by unfold syMark; split <;> rfl
      obtain ⟨s1, h1, h2⟩ := syEs_some h ho hv (evs [aP, aS]) (syMark [aP, aS] i (syT s i) s) (syMark_ok hs) (by rw [hm]; exact hd)
      obtain ⟨s2, h3⟩ := syL_some h ho f (i + 1) s1 (syEs_ok ho hv _ _ _ (syMark_ok hs) h1) h2
      exact ⟨s2, by rw [h1]; exact h3⟩
    · exact ⟨s, rfl⟩
theorem Pb.okay {aP aS : Aut} (h : Pb aP aS) : ∀ a ∈ [aP, aS], Okay a := fun a ha => by
  simp only [List.mem_cons, List.not_mem_nil, or_false] at ha
  rcases ha with rfl | rfl
  · exact h.p
  · exact h.s
theorem Pb.opE0 {aP aS : Aut} (h : Pb aP aS) : opE aP aS = 0 := by
  have hc : opC aP aS = 0 := by
    unfold opC
    rw [if_neg (by simp [(ckA_zero aP).2 h.p]), if_neg (by simp [(ckA_zero aS).2 h.s]), if_pos]
    refine List.eq_nil_iff_forall_not_mem.2 fun x hx => ?_
    have := (mem_mrg h.s.ali h.p.ali x).1 hx
    simp only [Bool.and_eq_true, decide_eq_true_eq, Bool.not_eq_true', decide_eq_false_iff_not] at this
    exact this.2.2 (h.sub x this.2.1)
  unfold opE
  rw [if_neg (by simp [hc])]
  have hsome : ∃ z, sync [aP, aS] = some z := by
    unfold sync
    split
    · exact ⟨_, rfl⟩
    · rename_i hz
      obtain ⟨s, hs⟩ := syL_some h h.okay 4096 0 (sy0 [aP, aS]) (sy0_ok h.okay hz) (by simp [sy0])
      rw [hs]; exact ⟨_, rfl⟩
  obtain ⟨z, hz⟩ := hsome
  rw [hz]
theorem Pb.st100 {aP aS : Aut} (h : Pb aP aS) : Okay aP → Okay aS → aP.st ≤ 100 ∧ aS.st ≤ 100 := fun _ _ => ⟨by have := h.p5; omega, by have := h.s5; omega⟩
/-- A Control of the definition is consistent with itself. -/
theorem ctlD_self (p s : Aut) (pairs : List (List Int)) (x : Int) (hi : Inc s.al) : consC (ctlD p s pairs x) (ctlD p s pairs x) = true := by
  have i1 : Inc (ctlD p s pairs x).en := List.Pairwise.sublist List.filter_sublist hi
  have i2 : Inc (ctlD p s pairs x).dis := List.Pairwise.sublist List.filter_sublist hi
  rw [consC_law i1 i2 i1 i2]
  unfold lawC
  have h1 : (ctlD p s pairs x).en.all (fun y => !decide (y ∈ (ctlD p s pairs x).dis)) = true := by
    rw [List.all_eq_true]
    intro y hy
    simp only [Bool.not_eq_true', decide_eq_false_iff_not]
    intro hd
    simp only [ctlD, List.mem_filter, Bool.and_eq_true, decide_eq_true_eq, Bool.not_eq_true', decide_eq_false_iff_not] at hy hd
    exact hd.2.2 hy.2.2
  rw [h1]
  simp
end Go.Proofs.YtfhgnlkdcdlblaaGreatDoor

/- The function SupervisorMaps returns true. -/
namespace Go.Lg
section
variable {P : Program} {f : Fr} {w : World} {d : Option Nat} {ty : Nat} {ps : String} {af : Array Edge} {gd : Option (Nat × Bool)}
theorem r_neqF {t t' : Nat} {x y : Operand} {k : IntKind} {a b : Int} (hx : ev f x = .int k a) (hy : ev f y = .int k b) (h : a = b) :
    (execOp (ev f) ⟨d, .binOp .neq t x y t', ty, ps, af, gd⟩).run P w = .ok (.value (.bool false)) w := by
  rw [r_neq hx hy, decide_eq_false (fun e => e h)]
end
end Go.Lg
namespace Go.Proofs.YtfhgnlkdcdlblaaGreatDoor
open Go.Lg

theorem Pb.opC0 {aP aS : Aut} (h : Pb aP aS) : opC aP aS = 0 := by
  have := h.opE0
  unfold opE at this
  split at this
  · rename_i h1; exact absurd this h1
  · rename_i h1; exact Decidable.not_not.1 h1
theorem AutF_comp {N : Nat} {H : Array Obj} {va vm ve : Value} {n : Int} {a : Aut} (h : AutF N H (.agg #[va, .int .i64 n, vm, ve]) a) : n = a.st ∧ ∀ L : List Nat, (∀ b ∈ L, b < N) → AutA L H va vm ve a := by
  obtain ⟨x1, x2, x3, e, h⟩ := h
  simp only [Value.agg.injEq, Array.mk.injEq, List.cons.injEq, and_true, Value.int.injEq, true_and] at e
  obtain ⟨rfl, rfl, rfl, rfl⟩ := e
  exact ⟨rfl, h⟩

end Go.Proofs.YtfhgnlkdcdlblaaGreatDoor
/- The synchronous product as a graph: its edges are the steps of its tuples; it is a right automaton. -/
namespace Go.Proofs.YtfhgnlkdcdlblaaGreatDoor
open Go.Lg

/-! ### Edges in a grid: by state, then by event -/
def grid (g : Nat → Int → Option Ed) (vs : List Int) (n : Nat) : List Ed := (List.range' 0 n).flatMap fun j => vs.filterMap (g j)
theorem grid_succ (g : Nat → Int → Option Ed) (vs : List Int) (n : Nat) : grid g vs (n + 1) = grid g vs n ++ vs.filterMap (g n) := by
  unfold grid; rw [List.range'_1_concat, List.flatMap_append]; simp
theorem eget_append (l m : List Ed) (s v : Int) : eget (l ++ m) s v = match eget l s v with | some u => some u | none => eget m s v := by
  induction l with
  | nil => rfl
  | cons e l ih =>
    rw [List.cons_append, eget, eget]
    split
    · rfl
    · exact ih
/-- An edge of the grid stands where it belongs. -/
def GridOk (g : Nat → Int → Option Ed) : Prop := ∀ j v e, g j v = some e → e.1 = (j : Int) ∧ e.2.1 = v
theorem eget_row {g : Nat → Int → Option Ed} (hg : GridOk g) (j : Nat) (v : Int) : ∀ (vs : List Int), eget (vs.filterMap (g j)) j v = if v ∈ vs then (g j v).map (·.2.2) else none
  | [] => by simp [eget]
  | u :: vs => by
    have ih := eget_row hg j v vs
    rw [List.filterMap_cons]
    cases hu : g j u with
    | none =>
      simp only []
      rw [ih]
      by_cases e : v = u
      · subst e; simp [hu]
      · simp [e]
    | some e =>
      have he := hg j u e hu
      simp only []
      rw [eget]
      by_cases e2 : u = v
      · subst e2
        rw [if_pos he, if_pos List.mem_cons_self, hu]; rfl
      · rw [if_neg (fun h => e2 (he.2.symm.trans h.2)), ih]
        simp [Ne.symm e2]
theorem eget_row_ne {g : Nat → Int → Option Ed} (hg : GridOk g) {j i : Nat} (h : j ≠ i) (v : Int) (vs : List Int) : eget (vs.filterMap (g j)) i v = none := by
  refine eget_none fun e he h2 => ?_
  obtain ⟨u, _, hu⟩ := List.mem_filterMap.1 he
  have := hg j u e hu
  omega
theorem eget_grid {g : Nat → Int → Option Ed} (hg : GridOk g) (vs : List Int) (j : Nat) (v : Int) : ∀ n, eget (grid g vs n) j v = if j < n ∧ v ∈ vs then (g j v).map (·.2.2) else none
  | 0 => by simp [grid, eget]
  | n + 1 => by
    rw [grid_succ, eget_append, eget_grid hg vs j v n]
    by_cases e : j = n
    · subst e
      rw [if_neg (by omega), eget_row hg]
      simp
    · rw [eget_row_ne hg (Ne.symm e)]
      by_cases h : j < n ∧ v ∈ vs
      · rw [if_pos h, if_pos ⟨by omega, h.2⟩]
        cases (g j v).map (·.2.2) <;> rfl
      · rw [if_neg h, if_neg (fun h2 => h ⟨by omega, h2.2⟩)]
theorem grid_mem {g : Nat → Int → Option Ed} {vs : List Int} {n : Nat} {e : Ed} (h : e ∈ grid g vs n) : ∃ j v, j < n ∧ v ∈ vs ∧ g j v = some e := by
  unfold grid at h
  obtain ⟨j, hj, h2⟩ := List.mem_flatMap.1 h
  obtain ⟨v, hv, h3⟩ := List.mem_filterMap.1 h2
  rw [List.mem_range'_1] at hj
  exact ⟨j, v, by omega, hv, h3⟩
theorem grid_pw {g : Nat → Int → Option Ed} (hg : GridOk g) {vs : List Int} (hi : Inc vs) : ∀ n, (grid g vs n).Pairwise fun x y : Ed => x.1 < y.1 ∨ (x.1 = y.1 ∧ x.2.1 < y.2.1)
  | 0 => by simp [grid]
  | n + 1 => by
    rw [grid_succ, List.pairwise_append]
    refine ⟨grid_pw hg hi n, pw_filterMap (r := (· < ·)) (fun x y u v hxy hu hv => ?_) hi, fun e he e' he' => ?_⟩
    · have h1 := hg n x u hu
      have h2 := hg n y v hv
      right; omega
    · obtain ⟨j, v, hj, _, h1⟩ := grid_mem he
      obtain ⟨v', _, h2⟩ := List.mem_filterMap.1 he'
      have h3 := hg j v e h1
      have h4 := hg n v' e' h2
      left; omega
theorem outE_append (l m : List Ed) (s : Int) : outE (l ++ m) s = outE l s ++ outE m s := by unfold outE; rw [List.filter_append]
theorem outE_grid {g : Nat → Int → Option Ed} (hg : GridOk g) (vs : List Int) (j : Nat) : ∀ n, outE (grid g vs n) j = if j < n then vs.filterMap (g j) else []
  | 0 => by simp [grid, outE]
  | n + 1 => by
    rw [grid_succ, outE_append, outE_grid hg vs j n]
    have key : ∀ e ∈ vs.filterMap (g n), e.1 = (n : Int) := fun e he => by
      obtain ⟨v, _, h2⟩ := List.mem_filterMap.1 he
      exact (hg n v e h2).1
    by_cases e : j = n
    · subst e
      rw [if_neg (by omega), if_pos (by omega), List.nil_append]
      unfold outE
      rw [List.filter_eq_self]
      intro x hx; simpa using key x hx
    · have : outE (vs.filterMap (g n)) j = [] := by
        unfold outE
        rw [List.filter_eq_nil_iff]
        intro x hx; have := key x hx; simp; omega
      rw [this, List.append_nil]
      by_cases h : j < n
      · rw [if_pos h, if_pos (by omega)]
      · rw [if_neg h, if_neg (by omega)]

/-! ### The union of the alphabets -/
theorem evs_snoc (l : List Aut) (a : Aut) : evs (l ++ [a]) = mrg (· || ·) (evs l) a.al := by unfold evs; rw [List.foldl_append]; rfl
theorem evsF (l : List Aut) : ∀ (acc : List Int), (∀ a ∈ l, Inc a.al) → Inc acc → Inc (l.foldl (fun acc a => mrg (· || ·) acc a.al) acc) ∧ ∀ x, x ∈ l.foldl (fun acc a => mrg (· || ·) acc a.al) acc ↔ x ∈ acc ∨ ∃ a ∈ l, x ∈ a.al := by
  induction l with
  | nil => intro acc _ h; exact ⟨h, fun x => by simp⟩
  | cons a l ih =>
    intro acc hl h
    have ha := hl a List.mem_cons_self
    obtain ⟨h1, h2⟩ := ih (mrg (· || ·) acc a.al) (fun b hb => hl b (List.mem_cons_of_mem _ hb)) (mrg_inc _ _ _ _ (Nat.le_refl _) h ha)
    rw [List.foldl_cons]
    refine ⟨h1, fun x => ?_⟩
    rw [h2 x, mem_mrg h ha]
    simp only [List.mem_cons, exists_eq_or_imp]
    constructor
    · rintro (⟨h3 | h3, _⟩ | h3)
      · exact .inl h3
      · exact .inr (.inl h3)
      · exact .inr (.inr h3)
    · rintro (h3 | h3 | h3)
      · exact .inl ⟨.inl h3, by simp [h3]⟩
      · exact .inl ⟨.inr h3, by simp [h3]⟩
      · exact .inr h3
theorem evs_inc {l : List Aut} (h : ∀ a ∈ l, Okay a) : Inc (evs l) := (evsF l [] (fun a ha => (h a ha).ali) (by simp)).1
theorem evs_mem {l : List Aut} (h : ∀ a ∈ l, Okay a) (x : Int) : x ∈ evs l ↔ ∃ a ∈ l, x ∈ a.al := by
  have := (evsF l [] (fun a ha => (h a ha).ali) (by simp)).2 x
  unfold evs; rw [this]; simp

/-! ### The search -/
def syF (aa : List Aut) (tup : List (List Int)) (j : Nat) (v : Int) : Option Ed := (stepT v aa (tup.getD j [])).map fun u => ((j : Int), v, (tup.idxOf u : Int))
theorem syF_ok (aa : List Aut) (tup : List (List Int)) : GridOk (syF aa tup) := by
  intro j v e h
  unfold syF at h
  obtain ⟨u, _, rfl⟩ := Option.map_eq_some_iff.1 h
  exact ⟨rfl, rfl⟩
theorem fm_congr {α β : Type} {f g : α → Option β} : ∀ {l : List α}, (∀ x ∈ l, f x = g x) → l.filterMap f = l.filterMap g
  | [], _ => rfl
  | x :: l, h => by rw [List.filterMap_cons, List.filterMap_cons, h x List.mem_cons_self, fm_congr (fun y hy => h y (List.mem_cons_of_mem _ hy))]
theorem fm_one {α β : Type} {f : α → Option β} {v : α} {e : β} (h : f v = some e) : [v].filterMap f = [e] := by rw [List.filterMap_cons, h]; rfl
theorem fm_none {α β : Type} {f : α → Option β} {v : α} (h : f v = none) : [v].filterMap f = [] := by rw [List.filterMap_cons, h]; rfl
theorem syF_none {aa : List Aut} {tup : List (List Int)} {j : Nat} {v : Int} (h : stepT v aa (tup.getD j []) = none) : syF aa tup j v = none := by unfold syF; rw [h]; rfl
theorem syF_some {aa : List Aut} {tup : List (List Int)} {j : Nat} {v : Int} {u : List Int} (h : stepT v aa (tup.getD j []) = some u) : syF aa tup j v = some ((j : Int), v, (tup.idxOf u : Int)) := by unfold syF; rw [h]; rfl
def Clo (aa : List Aut) (tup : List (List Int)) (j : Nat) (vs : List Int) : Prop := ∀ v ∈ vs, ∀ u, stepT v aa (tup.getD j []) = some u → u ∈ tup
theorem getD_pre {tup r : List (List Int)} {j : Nat} (h : j < tup.length) : (tup ++ r).getD j [] = tup.getD j [] := by simp [List.getD, List.getElem?_append_left h]
theorem syF_pre {aa : List Aut} {tup r : List (List Int)} {j : Nat} {vs : List Int} (hj : j < tup.length) (hc : Clo aa tup j vs) : vs.filterMap (syF aa (tup ++ r) j) = vs.filterMap (syF aa tup j) := by
  refine fm_congr fun v hv => ?_
  unfold syF
  rw [getD_pre hj]
  cases hs : stepT v aa (tup.getD j []) with
  | none => rfl
  | some u =>
    have hu := hc v hv u hs
    simp only [Option.map_some, Option.some.injEq, Prod.mk.injEq, true_and]
    rw [List.idxOf_append, if_pos hu]
theorem Clo.pre {aa : List Aut} {tup r : List (List Int)} {j : Nat} {vs : List Int} (hj : j < tup.length) (hc : Clo aa tup j vs) : Clo aa (tup ++ r) j vs := by
  intro v hv u hu
  rw [getD_pre hj] at hu
  exact List.mem_append_left _ (hc v hv u hu)
theorem nodup_snoc {α : Type} {l : List α} {u : α} (h : l.Nodup) (hu : u ∉ l) : (l ++ [u]).Nodup := by
  rw [List.nodup_append]
  exact ⟨h, by simp, fun a ha b hb => by simp only [List.mem_singleton] at hb; subst hb; exact fun e => hu (by rw [← e]; exact ha)⟩
theorem syEs_spec {aa : List Aut} {i : Nat} : ∀ (vs : List Int) (s s' : Sy), i < s.tup.length → s.tup.Nodup → syEs aa i (syT s i) vs s = some s' →
    ∃ r, s'.tup = s.tup ++ r ∧ s'.mk' = s.mk' ∧ s'.ed = s.ed ++ vs.filterMap (syF aa s'.tup i) ∧ Clo aa s'.tup i vs ∧ s'.tup.Nodup
  | [], s, s', _, hd, e => by cases e; exact ⟨[], by simp, rfl, by simp, fun v hv => (by cases hv), hd⟩
  | v :: vs, s, s', hi, hd, e => by
    rw [syEs] at e
    obtain ⟨s1, h1, h2⟩ := Option.bind_eq_some_iff.1 e
    have key : ∃ r1, s1.tup = s.tup ++ r1 ∧ s1.mk' = s.mk' ∧ s1.ed = s.ed ++ [v].filterMap (syF aa s1.tup i) ∧ Clo aa s1.tup i [v] ∧ s1.tup.Nodup := by
      unfold syE at h1
      have eT : syT s i = s.tup.getD i [] := rfl
      rw [eT] at h1
      cases hs : stepT v aa (s.tup.getD i []) with
      | none =>
        rw [hs] at h1
        cases h1
        refine ⟨[], by simp, rfl, by rw [fm_none (syF_none hs), List.append_nil], fun v' hv' u hu => ?_, hd⟩
        simp only [List.mem_singleton] at hv'; subst hv'
        rw [hs] at hu; cases hu
      | some u =>
        rw [hs] at h1
        simp only [] at h1
        by_cases hu : u ∈ s.tup
        · rw [if_pos hu] at h1
          cases h1
          refine ⟨[], by simp, rfl, by rw [fm_one (syF_some hs)], fun v' hv' u' hu' => ?_, hd⟩
          simp only [List.mem_singleton] at hv'; subst hv'
          simp only [] at hu' ⊢
          rw [hs] at hu'; cases hu'; exact hu
        · rw [if_neg hu] at h1
          split at h1
          · cases h1
          · cases h1
            have e2 : (s.tup ++ [u]).getD i [] = s.tup.getD i [] := getD_pre hi
            have e3 : (s.tup ++ [u]).idxOf u = s.tup.length := by rw [List.idxOf_append, if_neg hu]; simp
            refine ⟨[u], rfl, rfl, ?_, fun v' hv' u' hu' => ?_, nodup_snoc hd hu⟩
            · rw [fm_one (syF_some (tup := s.tup ++ [u]) (u := u) (by rw [e2]; exact hs)), e3]
            · simp only [List.mem_singleton] at hv'; subst hv'
              simp only [] at hu' ⊢
              rw [e2, hs] at hu'; cases hu'; simp
    obtain ⟨r1, k1, k2, k3, k4, k5⟩ := key
    have hi1 : i < s1.tup.length := by rw [k1]; simp; omega
    have eT : syT s1 i = syT s i := by unfold syT; rw [k1]; exact getD_pre hi
    rw [← eT] at h2
    obtain ⟨r2, g1, g2, g3, g4, g5⟩ := syEs_spec vs s1 s' hi1 k5 h2
    refine ⟨r1 ++ r2, by rw [g1, k1, List.append_assoc], g2.trans k2, ?_, ?_, g5⟩
    · rw [g3, k3, List.append_assoc]
      congr 1
      rw [show v :: vs = [v] ++ vs from rfl, List.filterMap_append]
      congr 1
      rw [g1]
      exact (syF_pre hi1 k4).symm
    · intro v' hv' u hu
      rcases List.mem_cons.1 hv' with rfl | hv'
      · have := k4.pre (r := r2) hi1
        rw [← g1] at this
        exact this v' List.mem_cons_self u hu
      · exact g4 v' hv' u hu
/-- Before tuple i is taken. -/
structure SyG (aa : List Aut) (i : Nat) (s : Sy) : Prop where
  nd : s.tup.Nodup
  le : i ≤ s.tup.length
  hd : s.tup.getD 0 [] = List.replicate aa.length 0 ∧ 0 < s.tup.length
  mk2 : s.mk' = ((List.range' 0 i).filter fun j => markT aa (s.tup.getD j [])).map fun j : Nat => (j : Int)
  ed : s.ed = grid (syF aa s.tup) (evs aa) i
  cl : ∀ j, j < i → Clo aa s.tup j (evs aa)
theorem flatMap_congr' {α β : Type} {f g : α → List β} : ∀ {l : List α}, (∀ x ∈ l, f x = g x) → l.flatMap f = l.flatMap g
  | [], _ => rfl
  | x :: l, h => by rw [List.flatMap_cons, List.flatMap_cons, h x List.mem_cons_self, flatMap_congr' (fun y hy => h y (List.mem_cons_of_mem _ hy))]
theorem SyG.next {aa : List Aut} {i : Nat} {s s' : Sy} (h : SyG aa i s) (hi : i < s.tup.length) (e : syEs aa i (syT s i) (evs aa) (syMark aa i (syT s i) s) = some s') : SyG aa (i + 1) s' := by
  have ht : (syMark aa i (syT s i) s).tup = s.tup := by unfold syMark; split <;> rfl
  have hed : (syMark aa i (syT s i) s).ed = s.ed := by unfold syMark; split <;> rfl
  have hT : syT (syMark aa i (syT s i) s) i = syT s i := by show (syMark aa i (syT s i) s).tup.getD i [] = s.tup.getD i []; rw [ht]
  rw [← hT] at e
  obtain ⟨r, g1, g2, g3, g4, g5⟩ := syEs_spec (evs aa) _ s' (by rw [ht]; exact hi) (by rw [ht]; exact h.nd) (by rw [hT] at e ⊢; exact e)
  rw [ht] at g1
  rw [hed] at g3
  have pre : ∀ j, j ≤ i → s'.tup.getD j [] = s.tup.getD j [] := fun j hj => by rw [g1]; exact getD_pre (by omega)
  refine ⟨g5, by rw [g1]; simp; omega, ⟨by rw [pre 0 (by omega)]; exact h.hd.1, by rw [g1]; simp; omega⟩, ?_, ?_, fun j hj => ?_⟩
  · rw [g2, List.range'_1_concat, List.filter_append, List.map_append, Nat.zero_add]
    have e1 : ((List.range' 0 i).filter fun j => markT aa (s'.tup.getD j [])) = (List.range' 0 i).filter fun j => markT aa (s.tup.getD j []) := by
      refine List.filter_congr fun j hj => ?_
      rw [List.mem_range'_1] at hj
      rw [pre j (by omega)]
    rw [e1]
    unfold syMark
    by_cases hm : markT aa (syT s i) = true
    · rw [if_pos hm]
      have hm' : markT aa (s'.tup.getD i []) = true := by rw [pre i (Nat.le_refl _)]; exact hm
      simp only [List.filter_cons, hm', if_true, List.filter_nil, List.map_cons, List.map_nil]
      rw [h.mk2]
    · rw [if_neg hm]
      have hm' : markT aa (s'.tup.getD i []) = false := by rw [pre i (Nat.le_refl _)]; exact eq_false_of_ne_true hm
      rw [List.filter_cons, if_neg (by rw [hm']; simp), List.filter_nil, h.mk2]; simp
  · rw [g3, grid_succ, h.ed]
    congr 1
    unfold grid
    refine flatMap_congr' fun j hj => ?_
    rw [List.mem_range'_1] at hj
    rw [g1]
    exact (syF_pre (by omega) (h.cl j (by omega))).symm
  · by_cases e2 : j = i
    · subst e2; exact g4
    · have := (h.cl j (by omega)).pre (r := r) (by omega)
      rw [← g1] at this
      exact this
theorem syL_spec {aa : List Aut} : ∀ (f i : Nat) (s s' : Sy), SyG aa i s → syL aa f i s = some s' → ∃ i', SyG aa i' s' ∧ (s'.tup.length = i' ∨ i' = i + f)
  | 0, i, s, s', h, e => by cases e; exact ⟨i, h, .inr rfl⟩
  | f + 1, i, s, s', h, e => by
    rw [syL] at e
    split at e
    · rename_i hi
      obtain ⟨s1, h1, h2⟩ := Option.bind_eq_some_iff.1 e
      obtain ⟨i', h3, h4⟩ := syL_spec f (i + 1) s1 s' (h.next hi h1) h2
      exact ⟨i', h3, by omega⟩
    · cases e; exact ⟨i, h, .inl (by have := h.le; omega)⟩
/-- What the product is. -/
structure SyP (aa : List Aut) (A : Aut) (Q : List (List Int)) : Prop where
  al : A.al = evs aa
  st : A.st = (Q.length : Int)
  nd : Q.Nodup
  v : ∀ t ∈ Q, Vt aa t
  le : Q.length ≤ 4096
  hd : 0 < Q.length → Q.getD 0 [] = List.replicate aa.length 0
  mk2 : A.mr = ((List.range' 0 Q.length).filter fun j => markT aa (Q.getD j [])).map fun j : Nat => (j : Int)
  ed : A.ed = grid (syF aa Q) (evs aa) Q.length
  cl : ∀ j, j < Q.length → Clo aa Q j (evs aa)
theorem sync_spec {aa : List Aut} (ho : ∀ a ∈ aa, Okay a) {A : Aut} {Q : List (List Int)} (h : sync aa = some (A, Q)) : SyP aa A Q ∧ (Q.length = 0 ↔ ∃ a ∈ aa, a.st = 0) := by
  have hok := sync_ok ho h
  unfold sync at h
  split at h
  · rename_i hz
    cases h
    exact ⟨⟨rfl, rfl, by simp, by simp, by simp, fun h => by simp at h, by simp, by simp [grid], fun j hj => by simp at hj⟩, by simpa using hz⟩
  · rename_i hz
    obtain ⟨s, h1, h2⟩ := Option.map_eq_some_iff.1 h
    have h0 : SyG aa 0 (sy0 aa) := ⟨by simp [sy0], by simp, ⟨by simp [sy0], by simp [sy0]⟩, by simp [sy0], by simp [sy0, grid], fun j hj => by omega⟩
    obtain ⟨i', h3, h4⟩ := syL_spec 4096 0 (sy0 aa) s h0 h1
    cases h2
    have hl : i' = s.tup.length := by
      have h5 := h3.le
      have h6 := hok.2
      simp only [] at h6
      omega
    subst hl
    refine ⟨⟨rfl, rfl, h3.nd, hok.1, hok.2, fun _ => h3.hd.1, h3.mk2, h3.ed, h3.cl⟩, ?_⟩
    have := h3.hd.2
    constructor
    · intro h; have h7 : s.tup.length = 0 := h; omega
    · intro h; exact absurd h hz
/-- A step of the product is a step of its tuple. -/
theorem SyP.step {aa : List Aut} {A : Aut} {Q : List (List Int)} (h : SyP aa A Q) {j : Nat} (hj : j < Q.length) (v : Int) :
    eget A.ed j v = if v ∈ evs aa then (stepT v aa (Q.getD j [])).map fun u => (Q.idxOf u : Int) else none := by
  rw [h.ed, eget_grid (syF_ok aa Q)]
  by_cases hv : v ∈ evs aa
  · rw [if_pos ⟨hj, hv⟩, if_pos hv]
    unfold syF
    rw [Option.map_map]; rfl
  · rw [if_neg (fun e => hv e.2), if_neg hv]
theorem SyP.to {aa : List Aut} {A : Aut} {Q : List (List Int)} (h : SyP aa A Q) {j : Nat} (hj : j < Q.length) {v : Int} (hv : v ∈ evs aa) {u : List Int} (hu : stepT v aa (Q.getD j []) = some u) : Q.idxOf u < Q.length ∧ Q.getD (Q.idxOf u) [] = u := by
  have hm := h.cl j hj v hv u hu
  have hl := List.idxOf_lt_length_of_mem hm
  refine ⟨hl, ?_⟩
  simp [List.getD, hl]
theorem SyP.okay {aa : List Aut} (ho : ∀ a ∈ aa, Okay a) {A : Aut} {Q : List (List Int)} (h : SyP aa A Q) : Okay A := by
  have hle := h.le
  refine ⟨fun e he => ?_, by rw [h.al]; exact evs_inc ho, by rw [h.st]; omega, by rw [h.st]; omega, fun s hs => ?_, ?_, fun e he => ?_, by rw [h.ed]; exact grid_pw (syF_ok aa Q) (evs_inc ho) _⟩
  · rw [h.al] at he
    obtain ⟨a, ha, hx⟩ := (evs_mem ho e).1 he
    exact (ho a ha).al e hx
  · rw [h.mk2] at hs
    simp only [List.mem_map, List.mem_filter, List.mem_range'_1] at hs
    obtain ⟨i, ⟨hi, _⟩, rfl⟩ := hs
    rw [h.st]; omega
  · rw [h.mk2]
    unfold Inc
    rw [List.pairwise_map]
    refine List.Pairwise.sublist List.filter_sublist ?_
    exact (List.pairwise_lt_range' (s := 0) (n := Q.length)).imp (fun h => by omega)
  · rw [h.ed] at he
    obtain ⟨j, v, hj, hv, hg⟩ := grid_mem he
    unfold syF at hg
    obtain ⟨u, hu, rfl⟩ := Option.map_eq_some_iff.1 hg
    have := (h.to hj hv hu).1
    rw [h.st, h.al]
    exact ⟨by simp only []; omega, by simp only []; omega, hv, by simp only []; omega, by simp only []; omega⟩
end Go.Proofs.YtfhgnlkdcdlblaaGreatDoor
/- Contracts: automaton.next, follow, reached, Generates, Accepts. -/
namespace Go.Proofs.YtfhgnlkdcdlblaaGreatDoor
open Go.Lg

/-- What IndexFunc answers. -/
def IxQ {α : Type} (q : α → Bool) (es : List α) (r : Value) : Prop := (r = .int .i64 (-1) ∧ ∀ m (hm : m < es.length), q (es[m]'hm) = false) ∨ ∃ (i : Nat) (hi : i < es.length), r = .int .i64 i ∧ q (es[i]'hi) = true ∧ ∀ m (hm : m < i), q (es[m]'(by omega)) = false
theorem ixfE_ok {g : Nat} {fn : Func} [Fu Tryz.prog g fn] {cap : List Value} {q : Ed → Bool} {L : List Nat} {w : World} {v : Value} {es : List Ed} (h : Eds L w.heap v es)
    (hk : ∀ (e : Ed) (w1 : World), Step [] w w1 → Ret Tryz.prog g ([.agg (edCells e).toArray] ++ cap) w1 fun r w' => r = .bool (q e) ∧ Step [] w1 w') :
    Ret Tryz.prog 33 [v, .func (.func g) #[] cap.toArray] w fun r w' => Step [] w w' ∧ IxQ q es r := by
  have hle := h.le
  refine Ret.of_W Tryz.func33 rfl Tryz.ntmps33 Tryz.results33 (by simp) ?_
  refine W_seq <| W_region (by rfl) ?_
  refine x r_assign <| xe ?_
  refine W_seq <| W_seq <| W_region (by rfl) ?_
  refine x r_move <| x (r_lenA h rfl) <| x r_move <| xe ?_
  refine W_block <| W_loop (α := Nat) [(4, 5), (8, 18)] (fun z => [(8, .int .i64 z)]) (fun z w' => z ≤ es.length ∧ Step [] w w' ∧ ∀ m (hm : m < es.length), m < z → q (es[m]'hm) = false) (fun z => es.length - z) (by rfl) 0 ⟨rfl, trivial⟩ ⟨Nat.zero_le _, Step.refl _ _, fun m _ h0 => absurd h0 (Nat.not_lt_zero m)⟩ ?_
  rintro k g1 w1 ⟨hk1, hs1, hq⟩
  refine W_seq <| W_region (by rfl) ?_
  refine x (r_lss rfl rfl) <| xe ?_
  refine W_seq <| W_ifn rfl (fun h9 => ?_) (fun h9 => ?_)
  · refine W_exit ?_
    refine W_seq <| W_region (by rfl) ?_
    refine x r_assign <| xe ?_
    exact W_ret ⟨[.int .i64 (-1)], ⟨rfl, trivial⟩, hs1, .inl ⟨rfl, fun m hm => hq m hm (by omega)⟩⟩
  have hlt : k < es.length := by omega
  refine W_skip ?_
  refine W_seq <| W_block <| W_seq <| W_region (by rfl) ?_
  refine x r_move <| x r_assign <| xe ?_
  refine W_seq <| W_region (by rfl) ?_
  refine x r_move <| x r_move <| x r_move <| xie (h.ext hs1) rfl rfl hlt fun a14 h14 => x (r_loadsA h14 rfl rfl) <| xl rfl <| xc (first := []) (capt := cap) rfl <| (hk (es[k]'hlt) w1 hs1).mono ?_
  rintro r2 w2 ⟨rfl, hs2⟩
  refine xe ?_
  refine W_cond rfl (fun h16 => ?_) (fun h16 => ?_)
  · refine W_seq <| W_region (by rfl) ?_
    refine x r_move <| x r_assign <| xe ?_
    exact W_ret ⟨[.int .i64 k], ⟨rfl, trivial⟩, hs1.trans hs2, .inr ⟨k, hlt, rfl, h16, fun m hm => hq m (by omega) hm⟩⟩
  refine W_skip ?_
  refine W_region (by rfl) ?_
  refine x (r_add rfl rfl ⟨by omega, by omega⟩) <| x r_move <| xe ?_
  refine ⟨k + 1, by omega, ⟨rfl, trivial⟩, hlt, hs1.trans hs2, fun m hm hmk => ?_⟩
  by_cases e : m = k
  · subst e; exact h16
  · exact hq m hm (by omega)
theorem ixfI_ok {g : Nat} {fn : Func} [Fu Tryz.prog g fn] {cap : List Value} {q : Int → Bool} {L : List Nat} {w : World} {v : Value} {es : List Int} (h : Ints L w.heap v es)
    (hk : ∀ (e : Int) (w1 : World), Step [] w w1 → Ret Tryz.prog g ([.int .i64 e] ++ cap) w1 fun r w' => r = .bool (q e) ∧ Step [] w1 w') :
    Ret Tryz.prog 95 [v, .func (.func g) #[] cap.toArray] w fun r w' => Step [] w w' ∧ IxQ q es r := by
  have hle := h.le
  refine Ret.of_W Tryz.func95 rfl Tryz.ntmps95 Tryz.results95 (by simp) ?_
  refine W_seq <| W_region (by rfl) ?_
  refine x r_assign <| xe ?_
  refine W_seq <| W_seq <| W_region (by rfl) ?_
  refine x r_move <| x (r_lenA h rfl) <| x r_move <| xe ?_
  refine W_block <| W_loop (α := Nat) [(4, 5), (8, 18)] (fun z => [(8, .int .i64 z)]) (fun z w' => z ≤ es.length ∧ Step [] w w' ∧ ∀ m (hm : m < es.length), m < z → q (es[m]'hm) = false) (fun z => es.length - z) (by rfl) 0 ⟨rfl, trivial⟩ ⟨Nat.zero_le _, Step.refl _ _, fun m _ h0 => absurd h0 (Nat.not_lt_zero m)⟩ ?_
  rintro k g1 w1 ⟨hk1, hs1, hq⟩
  refine W_seq <| W_region (by rfl) ?_
  refine x (r_lss rfl rfl) <| xe ?_
  refine W_seq <| W_ifn rfl (fun h9 => ?_) (fun h9 => ?_)
  · refine W_exit ?_
    refine W_seq <| W_region (by rfl) ?_
    refine x r_assign <| xe ?_
    exact W_ret ⟨[.int .i64 (-1)], ⟨rfl, trivial⟩, hs1, .inl ⟨rfl, fun m hm => hq m hm (by omega)⟩⟩
  have hlt : k < es.length := by omega
  refine W_skip ?_
  refine W_seq <| W_block <| W_seq <| W_region (by rfl) ?_
  refine x r_move <| x r_assign <| xe ?_
  refine W_seq <| W_region (by rfl) ?_
  refine x r_move <| x r_move <| x r_move <| xii (h.ext hs1) rfl rfl hlt fun a14 h14 => x (r_loadA h14 rfl) <| xl rfl <| xc (first := []) (capt := cap) rfl <| (hk (es[k]'hlt) w1 hs1).mono ?_
  rintro r2 w2 ⟨rfl, hs2⟩
  refine xe ?_
  refine W_cond rfl (fun h16 => ?_) (fun h16 => ?_)
  · refine W_seq <| W_region (by rfl) ?_
    refine x r_move <| x r_assign <| xe ?_
    exact W_ret ⟨[.int .i64 k], ⟨rfl, trivial⟩, hs1.trans hs2, .inr ⟨k, hlt, rfl, h16, fun m hm => hq m (by omega) hm⟩⟩
  refine W_skip ?_
  refine W_region (by rfl) ?_
  refine x (r_add rfl rfl ⟨by omega, by omega⟩) <| x r_move <| xe ?_
  refine ⟨k + 1, by omega, ⟨rfl, trivial⟩, hlt, hs1.trans hs2, fun m hm hmk => ?_⟩
  by_cases e : m = k
  · subst e; exact h16
  · exact hq m hm (by omega)
theorem cnfI_ok {g : Nat} {fn : Func} [Fu Tryz.prog g fn] {cap : List Value} {q : Int → Bool} {L : List Nat} {w : World} {v : Value} {es : List Int} (h : Ints L w.heap v es)
    (hk : ∀ (e : Int) (w1 : World), Step [] w w1 → Ret Tryz.prog g ([.int .i64 e] ++ cap) w1 fun r w' => r = .bool (q e) ∧ Step [] w1 w') :
    Ret Tryz.prog 76 [v, .func (.func g) #[] cap.toArray] w fun r w' => r = .bool (es.any q) ∧ Step [] w w' := by
  refine Ret.of_W Tryz.func76 rfl Tryz.ntmps76 Tryz.results76 (by simp) ?_
  refine W_seq <| W_region (by rfl) ?_
  refine x r_assign <| xe ?_
  refine W_seq <| W_region (by rfl) ?_
  refine x r_move <| x r_move <| xl rfl <| xf <| (ixfI_ok h hk).mono ?_
  rintro r1 w1 ⟨hs1, hr⟩
  refine Or.elim hr (fun hr => ?_) (fun hr => ?_)
  · obtain ⟨rfl, hq⟩ := hr
    have e : es.any q = false := by
      rw [List.any_eq_false]
      intro z hz
      obtain ⟨i, hi, rfl⟩ := List.getElem_of_mem hz
      rw [hq i hi]; simp
    refine x (r_geq rfl rfl) <| x r_assign <| xe ?_
    exact W_ret ⟨[.bool false], ⟨rfl, trivial⟩, by rw [e]; rfl, hs1⟩
  · obtain ⟨i, hi, rfl, h1, _⟩ := hr
    have e : es.any q = true := List.any_eq_true.2 ⟨_, List.getElem_mem hi, h1⟩
    have e2 : decide ((0 : Int) ≤ (i : Int)) = true := by simp
    refine x (r_geq rfl rfl) <| x r_assign <| xe ?_
    exact W_ret ⟨[.bool (decide ((0 : Int) ≤ (i : Int)))], ⟨rfl, trivial⟩, by rw [e, e2]; rfl, hs1⟩

/-! ### automaton.next -/
theorem nxt_out (es : List Ed) (s v : Int) : nxt es s v = nxt (outE es s) s v := by
  induction es with
  | nil => rfl
  | cons e es ih =>
    unfold outE at *
    rw [List.filter_cons]
    by_cases h : e.1 = s
    · rw [if_pos (by simpa using h), nxt, nxt, ih]
    · rw [if_neg (by simpa using h), nxt, if_neg (fun c => h c.1), ih]
theorem nxt_at : ∀ (l : List Ed) (s v : Int) (i : Nat) (hi : i < l.length), (∀ e ∈ l, e.1 = s) → (l[i]'hi).2.1 = v → (∀ m (hm : m < i), (l[m]'(by omega)).2.1 ≠ v) → nxt l s v = (l[i]'hi).2.2
  | e :: l, s, v, 0, _, hs, hv, _ => by rw [nxt, if_pos ⟨hs e List.mem_cons_self, hv⟩]; rfl
  | e :: l, s, v, i + 1, hi, hs, hv, hm => by
    rw [nxt, if_neg (fun c => hm 0 (by omega) c.2)]
    exact nxt_at l s v i (by simpa using hi) (fun e he => hs e (List.mem_cons_of_mem _ he)) hv (fun m hm' => hm (m + 1) (by omega))
theorem nxt_no : ∀ (l : List Ed) (s v : Int), (∀ e ∈ l, e.2.1 ≠ v) → nxt l s v = -1
  | [], _, _, _ => rfl
  | e :: l, s, v, h => by rw [nxt, if_neg (fun c => h e List.mem_cons_self c.2)]; exact nxt_no l s v (fun e he => h e (List.mem_cons_of_mem _ he))
theorem next1_ok {b T : Nat} {n : Int} (e : Ed) (w : World) (hB : Blk w.heap b T [.int .i64 n]) :
    Ret Tryz.prog 107 ([.agg (edCells e).toArray] ++ [.pointer (some ⟨b, 0, none⟩)]) w fun r w' => r = .bool (decide (e.2.1 = n)) ∧ Step [] w w' := by
  refine Ret.of_W Tryz.func107 rfl Tryz.ntmps107 Tryz.results107 (by simp) ?_
  refine W_seq <| W_region (by rfl) ?_
  refine xl rfl <| o_box (us := edCells e) rfl fun b2 w1 hs1 hb2 hB2 => x r_assign <| xe ?_
  refine W_seq <| W_region (by rfl) ?_
  refine x (r_fieldB rfl) <| x (r_loadB hB2 rfl rfl) <| x (r_loadB (hB.ext hs1) rfl rfl) <| x (r_eql rfl rfl) <| x r_assign <| xe ?_
  exact W_ret ⟨[_], ⟨rfl, trivial⟩, rfl, hs1⟩
theorem anext_ok {L : List Nat} {w : World} {va vm ve : Value} {st : Int} {a : Aut} (h : Eds L w.heap ve a.ed) (ho : Okay a) (s v : Int) (hs0 : 0 ≤ s) (hs1 : s < a.st) :
    Ret Tryz.prog 96 [.agg #[va, .int .i64 st, vm, ve], .int .i64 s, .int .i64 v] w fun r w' => r = .int .i64 (nxt a.ed s v) ∧ Step [] w w' := by
  have hst := ho.st1
  refine Ret.of_W Tryz.func96 rfl Tryz.ntmps96 Tryz.results96 (by simp) ?_
  refine W_seq <| W_region (by rfl) ?_
  refine xl rfl <| o_box (us := [va, .int .i64 st, vm, ve]) rfl fun b3 w1 hs1 hb3 hB3 => xl rfl <| o_box (us := [.int .i64 v]) rfl fun b5 w2 hs2 hb5 hB5 => x r_assign <| xe ?_
  refine W_seq <| W_region (by rfl) ?_
  refine x (r_loadsB (hB3.ext hs2) rfl rfl) <| x r_move <| xl rfl <| xf <| (out_ok ((h.ext hs1).ext hs2) ho.eds (fun e he => ⟨(ho.ed e he).1, by have := (ho.ed e he).2.1; omega⟩) s hs0 (by omega)).mono ?_
  rintro vo w3 ⟨hs3, hE⟩
  refine x r_assign <| xe ?_
  have hall : ∀ e ∈ outE a.ed s, e.1 = s := fun e he => (outE_mem he).2
  rw [nxt_out]
  refine W_seq <| W_region (by rfl) ?_
  refine x r_move <| x (r_makeFunc (l := []) (l' := [.tmp 5])) <| xl rfl <| xf <| (ixfE_ok (q := fun e => decide (e.2.1 = v)) (cap := [.pointer (some ⟨b5, 0, none⟩)]) hE (fun e w4 hs4 => next1_ok e w4 ((hB5.ext hs3).ext hs4))).mono ?_
  rintro r4 w4 ⟨hs4, hr⟩
  have hW := ((hs1.trans hs2).trans hs3).trans hs4
  refine Or.elim hr (fun hr => ?_) (fun hr => ?_)
  · obtain ⟨rfl, hq⟩ := hr
    have e1 : nxt (outE a.ed s) s v = -1 := nxt_no _ _ _ fun e he => by
      obtain ⟨i, hi, rfl⟩ := List.getElem_of_mem he
      simpa using hq i hi
    rw [e1]
    refine x r_assign <| xe ?_
    refine W_seq <| W_seq <| W_region (by rfl) ?_
    refine x r_move <| x (r_lss rfl rfl) <| xe ?_
    refine W_true rfl ?_
    refine W_seq <| W_region (by rfl) ?_
    refine x r_assign <| xe ?_
    exact W_ret ⟨[.int .i64 (-1)], ⟨rfl, trivial⟩, rfl, hW⟩
  · obtain ⟨i, hi, rfl, h1, h2⟩ := hr
    have e1 : nxt (outE a.ed s) s v = ((outE a.ed s)[i]'hi).2.2 := nxt_at _ s v i hi hall (by simpa using h1) (fun m hm => by simpa using h2 m hm)
    rw [e1]
    refine x r_assign <| xe ?_
    refine W_seq <| W_seq <| W_region (by rfl) ?_
    refine x r_move <| x (r_lss rfl rfl) <| xe ?_
    refine W_if rfl (fun h16 => absurd h16 (by omega)) (fun h16 => ?_)
    refine W_skip ?_
    refine W_seq <| W_region (by rfl) ?_
    refine x r_move <| x r_move <| xie (hE.ext hs4) rfl rfl hi fun a19 h19 => x (r_field rfl) <| x (r_loadA (h19.fld 2 _ rfl) rfl) <| x r_assign <| xe ?_
    exact W_ret ⟨[_], ⟨rfl, trivial⟩, rfl, hW⟩

/-! ### follow -/
def flw (a : Aut) : Int → List Int → Int × Nat
  | s, [] => (s, 0)
  | s, v :: u => if nxt a.ed s v < 0 then (s, 0) else ((flw a (nxt a.ed s v) u).1, (flw a (nxt a.ed s v) u).2 + 1)
theorem flw_le (a : Aut) : ∀ (u : List Int) (s : Int), (flw a s u).2 ≤ u.length
  | [], s => by simp [flw]
  | v :: u, s => by
    rw [flw]
    split
    · simp
    · have := flw_le a u (nxt a.ed s v); simp; omega
theorem nxt_lt {a : Aut} (ho : Okay a) {s v : Int} (h : ¬ nxt a.ed s v < 0) : nxt a.ed s v < a.st := (ho.ed _ (nxt_mem (by omega))).2.2.2.2
theorem follow_ok {L L' : List Nat} {w : World} {va vm ve vw : Value} {st : Int} {a : Aut} {u : List Int} (h : Eds L w.heap ve a.ed) (hw : Ints L' w.heap vw u) (ho : Okay a) (s : Int) (hs0 : 0 ≤ s) (hs1 : s < a.st) :
    Ret Tryz.prog 78 [.agg #[va, .int .i64 st, vm, ve], .int .i64 s, vw] w fun r w' => r = .tuple #[.int .i64 (flw a s u).1, .int .i64 (flw a s u).2] ∧ Step [] w w' := by
  have hle := hw.le
  refine Ret.of_W Tryz.func78 rfl Tryz.ntmps78 Tryz.results78 (by simp) ?_
  refine W_seq <| W_region (by rfl) ?_
  refine xl rfl <| o_box (us := [va, .int .i64 st, vm, ve]) rfl fun b3 w1 hs1 hb3 hB3 => x r_assign <| x r_assign <| xe ?_
  refine W_seq <| W_seq <| W_region (by rfl) ?_
  refine x r_move <| x (r_lenA hw rfl) <| x r_move <| xe ?_
  refine W_block <| W_loop (α := Nat × Int) [(1, 1), (6, 10), (13, 27)] (fun z => [(1, .int .i64 z.2), (13, .int .i64 z.1)]) (fun z w' => z.1 ≤ u.length ∧ 0 ≤ z.2 ∧ z.2 < a.st ∧ Step [] w1 w' ∧ flw a s u = ((flw a z.2 (u.drop z.1)).1, (flw a z.2 (u.drop z.1)).2 + z.1)) (fun z => u.length - z.1) (by rfl) (0, s) ⟨rfl, rfl, trivial⟩ ⟨Nat.zero_le _, hs0, by assumption, Step.refl _ _, by simp⟩ ?_
  rintro ⟨k, t⟩ g w2 ⟨hk, ht0, ht1, hs2, hf⟩
  simp only [] at hk ht0 ht1 hf
  have hW2 := hs1.trans hs2
  refine W_seq <| W_region (by rfl) ?_
  refine x (r_lss rfl rfl) <| xe ?_
  refine W_seq <| W_ifn rfl (fun h14 => ?_) (fun h14 => ?_)
  · refine W_exit ?_
    refine W_seq <| W_region (by rfl) ?_
    refine x r_move <| x r_move <| x (r_lenA hw rfl) <| x r_assign <| x r_assign <| xe ?_
    rw [List.drop_of_length_le (by omega)] at hf
    have hk2 : k = u.length := by have h15 : ¬ (k : Int) < (u.length : Int) := h14; omega
    refine W_ret ⟨[.int .i64 t, .int .i64 u.length], ⟨rfl, rfl, trivial⟩, ?_, hW2⟩
    rw [hf, hk2]
    simp [flw, tup]
  have hlt : k < u.length := by omega
  rw [drop_cons hlt, flw] at hf
  refine W_skip ?_
  refine W_seq <| W_block <| W_seq <| W_region (by rfl) ?_
  refine x r_move <| xii (hw.ext hW2) rfl rfl hlt fun a16 h16 => x (r_loadA h16 rfl) <| x r_assign <| x r_assign <| xe ?_
  refine W_seq <| W_region (by rfl) ?_
  refine x (r_loadsB (hB3.ext hs2) rfl rfl) <| x r_move <| x r_move <| xl rfl <| xf <| (anext_ok (h.ext hW2) ho t (u[k]'hlt) ht0 ht1).mono ?_
  rintro r3 w3 ⟨rfl, hs3⟩
  refine x r_assign <| xe ?_
  refine W_seq <| W_seq <| W_region (by rfl) ?_
  refine x r_move <| x (r_lss rfl rfl) <| xe ?_
  refine W_if rfl (fun h23 => ?_) (fun h23 => ?_)
  · rw [if_pos h23] at hf
    refine W_seq <| W_region (by rfl) ?_
    refine x r_move <| x r_move <| x r_assign <| x r_assign <| xe ?_
    refine W_ret ⟨[.int .i64 t, .int .i64 k], ⟨rfl, rfl, trivial⟩, ?_, hW2.trans hs3⟩
    rw [hf]
    simp [tup]
  rw [if_neg h23] at hf
  have hn := nxt_lt ho h23
  refine W_skip ?_
  refine W_region (by rfl) ?_
  refine x r_move <| x r_assign <| xe ?_
  refine W_region (by rfl) ?_
  refine x (r_add rfl rfl ⟨by omega, by omega⟩) <| x r_move <| xe ?_
  refine ⟨(k + 1, nxt a.ed t (u[k]'hlt)), by simp only []; omega, ⟨rfl, rfl, trivial⟩, hlt, by simp only []; omega, hn, hs2.trans hs3, ?_⟩
  simp only []
  rw [hf]
  simp; omega
/-! ### reached, Generates, Accepts -/
def rchd (a : Aut) (u : List Int) : Int × Bool := if a.st = 0 then (0, false) else ((flw a 0 u).1, decide (((flw a 0 u).2 : Int) = (u.length : Int)))
theorem reached_ok {L L' : List Nat} {w : World} {va vm ve vw : Value} {a : Aut} {u : List Int} (h : Eds L w.heap ve a.ed) (hw : Ints L' w.heap vw u) (ho : Okay a) :
    Ret Tryz.prog 58 [.agg #[va, .int .i64 a.st, vm, ve], vw] w fun r w' => r = .tuple #[.int .i64 (rchd a u).1, .bool (rchd a u).2] ∧ Step [] w w' := by
  have h0 := ho.st0
  refine Ret.of_W Tryz.func58 rfl Tryz.ntmps58 Tryz.results58 (by simp) ?_
  refine W_seq <| W_region (by rfl) ?_
  refine xl rfl <| o_box (us := [va, .int .i64 a.st, vm, ve]) rfl fun b2 w1 hs1 hb2 hB2 => x r_assign <| x r_assign <| xe ?_
  refine W_seq <| W_seq <| W_region (by rfl) ?_
  refine x (r_fieldB rfl) <| x (r_loadB hB2 rfl rfl) <| x (r_eql rfl rfl) <| xe ?_
  unfold rchd
  refine W_if rfl (fun h10 => ?_) (fun h10 => ?_)
  · refine W_seq <| W_region (by rfl) ?_
    refine x r_assign <| x r_assign <| xe ?_
    exact W_ret ⟨[.int .i64 0, .bool false], ⟨rfl, rfl, trivial⟩, by rw [if_pos h10]; rfl, hs1⟩
  rw [if_neg h10]
  refine W_skip ?_
  refine W_seq <| W_region (by rfl) ?_
  refine x (r_loadsB hB2 rfl rfl) <| x r_move <| xl rfl <| xf <| (follow_ok (h.ext hs1) (hw.ext hs1) ho 0 (by omega) (by omega)).mono ?_
  rintro r2 w2 ⟨rfl, hs2⟩
  refine x r_move <| x (r_extract rfl rfl) <| x (r_extract rfl rfl) <|
    x r_assign <| x r_assign <| xe ?_
  refine W_seq <| W_region (by rfl) ?_
  refine x r_move <| x r_move <| x r_move <| x (r_lenA hw rfl) <| x (r_eql rfl rfl) <| x r_assign <| x r_assign <| xe ?_
  exact W_ret ⟨[_, _], ⟨rfl, rfl, trivial⟩, rfl, hs1.trans hs2⟩
def gens (a : Aut) (u : List Int) : Bool := if ckA a ≠ 0 then false else (rchd a u).2
theorem Generates_ok {L L' : List Nat} {w : World} {va vm ve vw : Value} {a : Aut} {u : List Int} (h : AutA L w.heap va vm ve a) (hw : Ints L' w.heap vw u) :
    Ret Tryz.prog 23 [.agg #[va, .int .i64 a.st, vm, ve], vw] w fun r w' => r = .tuple #[.bool (gens a u), .int .i64 (ckA a)] ∧ Step [] w w' := by
  refine Ret.of_W Tryz.func23 rfl Tryz.ntmps23 Tryz.results23 (by simp) ?_
  refine W_seq <| W_region (by rfl) ?_
  refine xl rfl <| o_box (us := [va, .int .i64 a.st, vm, ve]) rfl fun b2 w1 hs1 hb2 hB2 => x r_assign <| x r_assign <| xe ?_
  refine W_seq <| W_seq <| W_region (by rfl) ?_
  refine x (r_loadsB hB2 rfl rfl) <| xl rfl <| xf <| (check_ok (h.ext hs1)).mono ?_
  rintro r2 w2 ⟨rfl, hs2⟩
  refine x r_assign <| xe ?_
  refine W_seq <| W_region (by rfl) ?_
  refine x r_move <| x (r_neq rfl rfl) <| xe ?_
  unfold gens
  refine W_if rfl (fun h12 => ?_) (fun h12 => ?_)
  · refine W_seq <| W_region (by rfl) ?_
    refine x r_move <| x r_assign <| x r_assign <| xe ?_
    exact W_ret ⟨[_, _], ⟨rfl, rfl, trivial⟩, by rw [if_pos h12]; rfl, hs1.trans hs2⟩
  have hc : ckA a = 0 := Decidable.not_not.1 h12
  rw [if_neg h12, hc]
  have hs12 := hs1.trans hs2
  refine W_skip ?_
  refine W_seq <| W_region (by rfl) ?_
  refine x (r_loadsB (hB2.ext hs2) rfl rfl) <| x r_move <| xl rfl <| xf <| (reached_ok (h.ed.ext hs12) (hw.ext hs12) ((ckA_zero a).1 hc)).mono ?_
  rintro r3 w3 ⟨rfl, hs3⟩
  refine x r_move <| x (r_extract rfl rfl) <|
    x (r_extract rfl rfl) <| x r_assign <| x r_assign <| xe ?_
  refine W_seq <| W_region (by rfl) ?_
  refine x r_move <| x r_assign <| x r_assign <| xe ?_
  exact W_ret ⟨[_, _], ⟨rfl, rfl, trivial⟩, rfl, hs12.trans hs3⟩
def accs (a : Aut) (u : List Int) : Bool := if ckA a ≠ 0 then false else (rchd a u).2 && decide ((rchd a u).1 ∈ a.mr)
end Go.Proofs.YtfhgnlkdcdlblaaGreatDoor
/- Contracts: automaton.checkState, Run, Enabled; product.checkTuple, checkEvent, Step. -/
namespace Go.Proofs.YtfhgnlkdcdlblaaGreatDoor
open Go.Lg

def cks (a : Aut) (s : Int) : Int := if ckA a ≠ 0 then ckA a else if s < 0 ∨ a.st ≤ s then 2 else 0
theorem checkState_ok {L : List Nat} {w : World} {va vm ve : Value} {a : Aut} (h : AutA L w.heap va vm ve a) (s : Int) :
    Ret Tryz.prog 75 [.agg #[va, .int .i64 a.st, vm, ve], .int .i64 s] w fun r w' => r = .int .i64 (cks a s) ∧ Step [] w w' := by
  refine Ret.of_W Tryz.func75 rfl Tryz.ntmps75 Tryz.results75 (by simp) ?_
  refine W_seq <| W_region (by rfl) ?_
  refine xl rfl <| o_box (us := [va, .int .i64 a.st, vm, ve]) rfl fun b2 w1 hs1 hb2 hB2 => x r_assign <| xe ?_
  refine W_seq <| W_seq <| W_region (by rfl) ?_
  refine x (r_loadsB hB2 rfl rfl) <| xl rfl <| xf <| (check_ok (h.ext hs1)).mono ?_
  rintro r2 w2 ⟨rfl, hs2⟩
  refine x r_assign <| xe ?_
  unfold cks
  have hs12 := hs1.trans hs2
  refine W_seq <| W_region (by rfl) ?_
  refine x r_move <| x (r_neq rfl rfl) <| xe ?_
  refine W_if rfl (fun h9 => ?_) (fun h9 => ?_)
  · refine W_seq <| W_region (by rfl) ?_
    refine x r_move <| x r_assign <| xe ?_
    exact W_ret ⟨[_], ⟨rfl, trivial⟩, by rw [if_pos h9]; rfl, hs12⟩
  rw [if_neg h9]
  refine W_skip ?_
  refine W_seq <| W_cut (α := Unit) [(11, 18)] (fun z => [(18, .bool (decide (s < 0 ∨ a.st ≤ s)))]) (fun z w' => w' = w2) (by rfl) ?_ ?_
  · refine W_region (by rfl) ?_
    refine x r_move <| xb (r_lss rfl rfl) (fun h12 => ?_) (fun h12 => ?_)
    · refine x r_move <| xs rfl <| xs rfl <| xs rfl <| xs rfl <| x (r_pick rfl) <| xe ?_
      exact ⟨(), ⟨by rw [decide_eq_true (Or.inl h12)]; rfl, trivial⟩, rfl⟩
    refine x r_move <| x r_move <| x (r_fieldB rfl) <| x (r_loadB (hB2.ext hs2) rfl rfl) <| x (r_geq rfl rfl) <| x (r_pick rfl) <| xe ?_
    exact ⟨(), ⟨by show Value.bool (decide (a.st ≤ s)) = _; simp [h12], trivial⟩, rfl⟩
  rintro z g w3 rfl
  refine W_if rfl (fun h18 => ?_) (fun h18 => ?_)
  · refine W_seq <| W_region (by rfl) ?_
    refine x r_assign <| xe ?_
    exact W_ret ⟨[_], ⟨rfl, trivial⟩, by rw [if_pos h18]; rfl, hs12⟩
  refine W_skip ?_
  refine W_seq <| W_region (by rfl) ?_
  refine x r_assign <| xe ?_
  exact W_ret ⟨[_], ⟨rfl, trivial⟩, by rw [if_neg h18]; rfl, hs12⟩
theorem cks_zero {a : Aut} {s : Int} (h : cks a s = 0) : Okay a ∧ 0 ≤ s ∧ s < a.st := by
  unfold cks at h
  split at h
  · rename_i h1; exact absurd h h1
  · rename_i h1
    split at h
    · cases h
    · rename_i h2; exact ⟨(ckA_zero a).1 (Decidable.not_not.1 h1), by omega, by omega⟩
theorem cks_ok {a : Aut} (ho : Okay a) {s : Int} (h0 : 0 ≤ s) (h1 : s < a.st) : cks a s = 0 := by
  unfold cks
  rw [if_neg (by simpa using (ckA_zero a).2 ho), if_neg (by omega)]

theorem run1_ok {L : List Nat} {b T : Nat} {va : Value} {al : List Int} {us : List Value} (e : Int) (w : World) (hB : Blk w.heap b T (va :: us)) (hA : Ints L w.heap va al) :
    Ret Tryz.prog 77 ([.int .i64 e] ++ [.pointer (some ⟨b, 0, none⟩)]) w fun r w' => r = .bool (decide (e ∉ al)) ∧ Step [] w w' := by
  refine Ret.of_W Tryz.func77 rfl Tryz.ntmps77 Tryz.results77 (by simp) ?_
  refine W_seq <| W_region (by rfl) ?_
  refine x r_assign <| xe ?_
  refine W_seq <| W_region (by rfl) ?_
  refine x (r_fieldB rfl) <| x (r_loadB hB rfl rfl) <| x r_move <| xl rfl <| xf <| (contains_ok hA e).mono ?_
  rintro r1 w1 ⟨rfl, rfl⟩
  refine x (r_not rfl) <| x r_assign <| xe ?_
  refine W_ret ⟨[_], ⟨rfl, trivial⟩, ?_, Step.refl _ _⟩
  show Value.bool (!decide (e ∈ al)) = _
  rw [decide_not]
def runE (a : Aut) (s : Int) (u : List Int) : Int := if cks a s ≠ 0 then cks a s else if (u.any fun e => decide (e ∉ a.al)) = true then 9 else 0
theorem Run_ok {L L' : List Nat} {w : World} {va vm ve vw : Value} {a : Aut} {u : List Int} (h : AutA L w.heap va vm ve a) (hw : Ints L' w.heap vw u) (s : Int) :
    Ret Tryz.prog 55 [.agg #[va, .int .i64 a.st, vm, ve], .int .i64 s, vw] w fun r w' => Step [] w w' ∧ r = if runE a s u ≠ 0 then .tuple #[.int .i64 0, .int .i64 0, .int .i64 (runE a s u)] else .tuple #[.int .i64 (flw a s u).1, .int .i64 (flw a s u).2, .int .i64 0] := by
  refine Ret.of_W Tryz.func55 rfl Tryz.ntmps55 Tryz.results55 (by simp) ?_
  refine W_seq <| W_region (by rfl) ?_
  refine xl rfl <| o_box (us := [va, .int .i64 a.st, vm, ve]) rfl fun b3 w1 hs1 hb3 hB3 => x r_assign <| x r_assign <| x r_assign <| xe ?_
  refine W_seq <| W_seq <| W_region (by rfl) ?_
  refine x (r_loadsB hB3 rfl rfl) <| x r_move <| xl rfl <| xf <| (checkState_ok (h.ext hs1) s).mono ?_
  rintro r2 w2 ⟨rfl, hs2⟩
  refine x r_assign <| xe ?_
  have hs12 := hs1.trans hs2
  unfold runE
  refine W_seq <| W_region (by rfl) ?_
  refine x r_move <| x (r_neq rfl rfl) <| xe ?_
  refine W_if rfl (fun h13 => ?_) (fun h13 => ?_)
  · refine W_seq <| W_region (by rfl) ?_
    refine x r_move <| x r_assign <| x r_assign <| x r_assign <| xe ?_
    exact W_ret ⟨[_, _, _], ⟨rfl, rfl, rfl, trivial⟩, hs12, by rw [if_pos h13, if_pos h13]; rfl⟩
  have hc : cks a s = 0 := Decidable.not_not.1 h13
  obtain ⟨ho, h0, h1⟩ := cks_zero hc
  rw [if_neg h13]
  refine W_skip ?_
  refine W_seq <| W_seq <| W_region (by rfl) ?_
  refine x r_move <| x (r_makeFunc (l := []) (l' := [.tmp 3])) <| xl rfl <| xf <| (cnfI_ok (q := fun e => decide (e ∉ a.al)) (cap := [.pointer (some ⟨b3, 0, none⟩)]) (hw.ext hs12) (fun e w4 hs4 => run1_ok e w4 ((hB3.ext hs2).ext hs4) ((h.al.ext hs12).ext hs4))).mono ?_
  rintro r3 w3 ⟨rfl, hs3⟩
  refine xe ?_
  have hs13 := hs12.trans hs3
  refine W_cond rfl (fun h17 => ?_) (fun h17 => ?_)
  · rw [if_pos h17]
    refine W_seq <| W_region (by rfl) ?_
    refine x r_assign <| x r_assign <| x r_assign <| xe ?_
    exact W_ret ⟨[_, _, _], ⟨rfl, rfl, rfl, trivial⟩, hs13, by rw [if_pos (by decide)]; rfl⟩
  rw [if_neg (by rw [h17]; simp)]
  refine W_skip ?_
  refine W_seq <| W_region (by rfl) ?_
  refine x (r_loadsB ((hB3.ext hs2).ext hs3) rfl rfl) <| x r_move <| x r_move <| xl rfl <| xf <| (follow_ok (h.ed.ext hs13) (hw.ext hs13) ho s h0 h1).mono ?_
  rintro r4 w4 ⟨rfl, hs4⟩
  refine x r_move <| x (r_extract rfl rfl) <|
    x (r_extract rfl rfl) <| x r_assign <| x r_assign <| xe ?_
  refine W_seq <| W_region (by rfl) ?_
  refine x r_move <| x r_move <| x r_assign <| x r_assign <| x r_assign <| xe ?_
  exact W_ret ⟨[_, _, _], ⟨rfl, rfl, rfl, trivial⟩, hs13.trans hs4, rfl⟩

/-! ### Enabled -/
def enb (a : Aut) (s : Int) : List Int := (outE a.ed s).map (·.2.1)
theorem enb_take {l : List Ed} {k : Nat} (h : k < l.length) : (l.take (k + 1)).map (·.2.1) = (l.take k).map (·.2.1) ++ [(l[k]'h).2.1] := by
  rw [List.take_add_one, List.getElem?_eq_getElem h, List.map_append]; rfl
theorem Enabled_ok {L : List Nat} {w : World} {va vm ve : Value} {a : Aut} (h : AutA L w.heap va vm ve a) (s : Int) :
    Ret Tryz.prog 56 [.agg #[va, .int .i64 a.st, vm, ve], .int .i64 s] w fun r w' => Step [] w w' ∧ ∃ v, r = .tuple #[v, .int .i64 (cks a s)] ∧ (cks a s ≠ 0 → v = nilS) ∧ (cks a s = 0 → IntsO 3 w.heap.size w' v (enb a s)) := by
  refine Ret.of_W Tryz.func56 rfl Tryz.ntmps56 Tryz.results56 (by simp) ?_
  refine W_seq <| W_region (by rfl) ?_
  refine xl rfl <| o_box (us := [va, .int .i64 a.st, vm, ve]) rfl fun b2 w1 hs1 hb2 hB2 => x r_assign <| x r_assign <| xe ?_
  refine W_seq <| W_seq <| W_region (by rfl) ?_
  refine x (r_loadsB hB2 rfl rfl) <| x r_move <| xl rfl <| xf <| (checkState_ok (h.ext hs1) s).mono ?_
  rintro r2 w2 ⟨rfl, hs2⟩
  refine x r_assign <| xe ?_
  have hs12 := hs1.trans hs2
  refine W_seq <| W_region (by rfl) ?_
  refine x r_move <| x (r_neq rfl rfl) <| xe ?_
  refine W_if rfl (fun h14 => ?_) (fun h14 => ?_)
  · refine W_seq <| W_region (by rfl) ?_
    refine x r_move <| x r_assign <| x r_assign <| xe ?_
    exact W_ret ⟨[nilS, _], ⟨rfl, rfl, trivial⟩, hs12, nilS, rfl, fun _ => rfl, fun e => absurd e h14⟩
  have hc : cks a s = 0 := Decidable.not_not.1 h14
  obtain ⟨ho, h0, h1⟩ := cks_zero hc
  have hst := ho.st1
  rw [hc]
  refine W_skip ?_
  refine W_seq <| W_region (by rfl) ?_
  refine x r_assign <| xe ?_
  refine W_seq <| W_seq <| W_region (by rfl) ?_
  refine x (r_loadsB (hB2.ext hs2) rfl rfl) <| x r_move <| xl rfl <| xf <| (out_ok (h.ed.ext hs12) ho.eds (fun e he => ⟨(ho.ed e he).1, by have := (ho.ed e he).2.1; omega⟩) s h0 (by omega)).mono ?_
  rintro vo w3 ⟨hs3, hE⟩
  refine x (r_lenA hE rfl) <| x r_move <| xe ?_
  have hW3 := hs12.trans hs3
  have hz3 := hW3.size
  have hlen := outE_len a.ed s
  have hel := ho.ed_le
  refine exE (outE a.ed s) fun os hos => ?_
  rw [hos] at hE hlen
  refine W_block <| W_loop (α := Nat × Value) [(7, 7), (9, 9), (20, 29)] (fun z => [(7, z.2), (20, .int .i64 z.1)]) (fun z w' => z.1 ≤ os.length ∧ Step [] w3 w' ∧ IntsO 3 w3.heap.size w' z.2 ((os.take z.1).map (·.2.1))) (fun z => os.length - z.1) (by rfl) (0, .slice none 0 0) ⟨rfl, by rw [hos]; rfl, trivial⟩ ⟨Nat.zero_le _, Step.refl _ _, own_nil _ _ _ _⟩ ?_
  rintro ⟨k, v⟩ g w4 ⟨hk, hs4, ho4⟩
  simp only [] at hk ho4
  have hz4 := hs4.size
  refine W_seq <| W_region (by rfl) ?_
  refine x (r_lss rfl rfl) <| xe ?_
  refine W_seq <| W_ifn rfl (fun h21 => ?_) (fun h21 => ?_)
  · refine W_exit ?_
    refine W_seq <| W_region (by rfl) ?_
    refine x r_move <| x r_assign <| x r_assign <| xe ?_
    rw [List.take_of_length_le (by rw [hos] at h21; omega)] at ho4
    refine W_ret ⟨[v, _], ⟨rfl, rfl, trivial⟩, hW3.trans hs4, v, rfl, fun e => absurd rfl e, fun _ => ?_⟩
    unfold enb
    rw [hos]; exact own_base ho4 hz3
  have hlt : k < os.length := by rw [hos] at h21; omega
  refine W_skip ?_
  refine W_seq <| W_block <| W_seq <| W_region (by rfl) ?_
  refine xie (hE.ext hs4) rfl rfl hlt fun a22 h22 => x (r_loadsA h22 rfl rfl) <| xl rfl <| o_alloc (us := [.int .i64 0, .int .i64 0, .int .i64 0]) rfl fun b9 w5 hs5 hb9 hB9 => xl rfl <| o_stores (us := edCells (os[k]'hlt)) hB9 rfl rfl rfl rfl ⟨rfl, rfl, rfl, trivial⟩ fun w6 hs6 hB96 =>
    xe ?_
  have hs46 : Step [] w4 w6 := hs5.then1 hs6 hb9
  have ho6 := own_ext ho4 hs46
  refine W_region (by rfl) ?_
  refine x r_move <| x (r_fieldB rfl) <| x (r_loadB hB96 rfl rfl) <| xl rfl <| o_lits (us := [[.int .i64 (os[k]'hlt).2.1]]) rfl rfl (by decide) (by simp) ⟨rfl, rfl, trivial⟩ fun b27 w7 hs7 hb27 hB27 => ?_
  have ho7 := own_ext ho6 hs7
  have hz7 := (hs46.trans hs7).size
  have htl : ((os.take k).map (·.2.1)).length ≤ 131072 := by simp; omega
  refine xl rfl <| o_app (news := [.int .i64 (os[k]'hlt).2.1]) (L := []) ho7 rfl rfl rfl (hB27.at (by simp)) (by simp [Value.oneCell']) (by omega) (by omega) fun v8 w8 ho8 hs8 hn8 => x r_assign <| xe ?_
  have hge := own_ge ho4
  refine W_region (by rfl) ?_
  refine x (r_add rfl rfl ⟨by omega, by omega⟩) <| x r_move <| xe ?_
  refine ⟨(k + 1, v8), by simp only []; omega, ⟨rfl, rfl, trivial⟩, hlt, ((hs4.trans hs46).trans hs7).then hs8 (fun b hb => .inr (hge b hb).1), ?_⟩
  simp only []
  rw [enb_take hlt]
  exact IntsO.snoc ho8

/-! ### product.checkTuple, checkEvent, Step -/
def ckTL : List Aut → List Int → Int
  | a :: l, t :: ts => if t < 0 ∨ a.st ≤ t then 2 else ckTL l ts
  | _, _ => 0
def ckT (l : List Aut) (t : List Int) : Int := if ckP l ≠ 0 then ckP l else if t.length ≠ l.length then 4 else ckTL l t
theorem ckP_zero {l : List Aut} (h : ckP l = 0) : l.length ≤ 12 ∧ ∀ a ∈ l, Okay a := by
  unfold ckP at h
  split at h
  · cases h
  · rename_i h1; exact ⟨by omega, (ckL_zero l).1 h⟩
theorem ckTL_zero : ∀ {l : List Aut} {t : List Int}, t.length = l.length → (ckTL l t = 0 ↔ Vt l t)
  | [], t, hl => by
    have : t = [] := List.eq_nil_of_length_eq_zero hl
    subst this
    exact ⟨fun _ => ⟨rfl, fun i h => by simp at h⟩, fun _ => rfl⟩
  | a :: l, [], hl => by simp at hl
  | a :: l, t :: ts, hl => by
    rw [ckTL]
    have ih := ckTL_zero (l := l) (t := ts) (by simpa using hl)
    constructor
    · intro h
      split at h
      · cases h
      · rename_i h1
        exact Vt.cons (by omega) (by omega) (ih.1 h)
    · intro h
      have h0 := h.2 0 (by simp) (by simp)
      simp only [List.getElem_cons_zero] at h0
      rw [if_neg (by omega), ih]
      exact ⟨by simpa using hl, fun i h2 h3 => h.2 (i + 1) (by simpa using h2) (by simpa using h3)⟩
theorem ckT_zero {l : List Aut} {t : List Int} (h : ckT l t = 0) : l.length ≤ 12 ∧ (∀ a ∈ l, Okay a) ∧ Vt l t := by
  unfold ckT at h
  split at h
  · rename_i h1; exact absurd h h1
  · rename_i h1
    split at h
    · cases h
    · rename_i h2
      obtain ⟨h3, h4⟩ := ckP_zero (Decidable.not_not.1 h1)
      exact ⟨h3, h4, (ckTL_zero (by omega)).1 h⟩
theorem ckT_ok {l : List Aut} {t : List Int} (hn : l.length ≤ 12) (ho : ∀ a ∈ l, Okay a) (hv : Vt l t) : ckT l t = 0 := by
  have h1 : ckP l = 0 := by unfold ckP; rw [if_neg (by omega)]; exact (ckL_zero l).2 ho
  unfold ckT
  rw [if_neg (by simp [h1]), if_neg (by simp [hv.1])]
  exact (ckTL_zero hv.1).2 hv
def ckV (l : List Aut) (t : List Int) (v : Int) : Int := if ckT l t ≠ 0 then ckT l t else if v ∉ evs l then 9 else 0
end Go.Proofs.YtfhgnlkdcdlblaaGreatDoor
/- SupervisorAfter, plain law: what the closed loop does after a word. -/
namespace Go.Proofs.YtfhgnlkdcdlblaaGreatDoor
open Go.Lg

/-- The tuples along a word. -/
def goT (aa : List Aut) : List Int → List Int → Option (List Int)
  | t, [] => some t
  | t, v :: u => if v ∉ evs aa then none else match stepT v aa t with | none => none | some t' => goT aa t' u
theorem go_flw {aa : List Aut} {A : Aut} {Q : List (List Int)} (h : SyP aa A Q) : ∀ (u : List Int) (j : Nat), j < Q.length →
    (∃ j' : Nat, j' < Q.length ∧ flw A j u = ((j' : Int), u.length) ∧ goT aa (Q.getD j []) u = some (Q.getD j' [])) ∨ ((flw A j u).2 < u.length ∧ goT aa (Q.getD j []) u = none)
  | [], j, hj => .inl ⟨j, hj, rfl, rfl⟩
  | v :: u, j, hj => by
    have hs := h.step hj v
    by_cases hv : v ∈ evs aa
    · rw [if_pos hv] at hs
      cases ht : stepT v aa (Q.getD j []) with
      | none =>
        rw [ht] at hs
        have hn : nxt A.ed j v = -1 := by rw [nxt_eget, hs]; rfl
        right
        rw [flw, if_pos (by rw [hn]; decide), goT, if_neg (fun e => e hv), ht]
        exact ⟨by simp, rfl⟩
      | some t' =>
        obtain ⟨h1, h2⟩ := h.to hj hv ht
        rw [ht] at hs
        have hn : nxt A.ed j v = (Q.idxOf t' : Int) := by rw [nxt_eget, hs]; rfl
        rw [flw, hn, if_neg (by omega), goT, if_neg (fun e => e hv), ht]
        rcases go_flw h u (Q.idxOf t') h1 with ⟨j', k1, k2, k3⟩ | ⟨k1, k2⟩
        · left
          refine ⟨j', k1, ?_, ?_⟩
          · rw [k2]; simp
          · rw [h2] at k3; exact k3
        · right
          rw [h2] at k2
          exact ⟨by simp; omega, k2⟩
    · rw [if_neg hv] at hs
      have hn : nxt A.ed j v = -1 := by rw [nxt_eget, hs]
      right
      rw [flw, if_pos (by rw [hn]; decide), goT, if_pos hv]
      exact ⟨by simp, rfl⟩
theorem enb_syP {aa : List Aut} {A : Aut} {Q : List (List Int)} (h : SyP aa A Q) {j : Nat} (hj : j < Q.length) : enb A j = (evs aa).filter fun v => (stepT v aa (Q.getD j [])).isSome := by
  unfold enb
  rw [h.ed, outE_grid (syF_ok aa Q), if_pos hj]
  generalize evs aa = vs
  induction vs with
  | nil => rfl
  | cons v vs ih =>
    rw [List.filterMap_cons, List.filter_cons]
    cases hs : stepT v aa (Q.getD j []) with
    | none => rw [syF_none hs]; exact ih
    | some u =>
      rw [syF_some hs]
      simp only [List.map_cons, Option.isSome_some, if_true]
      rw [ih]
theorem enb_mem {a : Aut} (ho : Okay a) (x v : Int) : v ∈ enb a x ↔ 0 ≤ nxt a.ed x v := by
  unfold enb
  rw [nxt_nonneg ho]
  constructor
  · intro h
    obtain ⟨e, he, rfl⟩ := List.mem_map.1 h
    obtain ⟨h1, h2⟩ := outE_mem he
    cases hg : eget a.ed x e.2.1 with
    | some _ => rfl
    | none =>
      exfalso
      have key : ∀ (l : List Ed), e ∈ l → eget l x e.2.1 = none → False := by
        intro l
        induction l with
        | nil => intro h; cases h
        | cons d l ih =>
          intro hm hg
          rw [eget] at hg
          split at hg
          · cases hg
          · rename_i hne
            rcases List.mem_cons.1 hm with rfl | hm
            · exact hne ⟨h2, rfl⟩
            · exact ih hm hg
      exact key a.ed h1 hg
  · intro h
    obtain ⟨u, hu⟩ := Option.isSome_iff_exists.1 h
    have := eget_mem hu
    refine List.mem_map.2 ⟨(x, v, u), ?_, rfl⟩
    unfold outE
    exact List.mem_filter.2 ⟨this, by simp⟩
theorem enb_inc {a : Aut} (ho : Okay a) (x : Int) : Inc (enb a x) := by
  unfold enb Inc
  rw [List.pairwise_map]
  have h1 : (outE a.ed x).Pairwise fun x y : Ed => x.1 < y.1 ∨ (x.1 = y.1 ∧ x.2.1 < y.2.1) := List.Pairwise.sublist List.filter_sublist ho.edi
  refine List.Pairwise.imp_of_mem (fun {a b} ha hb hab => ?_) h1
  have h2 := (outE_mem ha).2
  have h3 := (outE_mem hb).2
  omega
theorem enb_filter {a : Aut} (ho : Okay a) (x : Int) : enb a x = a.al.filter fun v => decide (0 ≤ nxt a.ed x v) := by
  refine Inc.ext (enb_inc ho x) (List.Pairwise.sublist List.filter_sublist ho.ali) fun v => ?_
  rw [enb_mem ho, List.mem_filter]
  constructor
  · intro h; exact ⟨(ho.ed _ (nxt_mem h)).2.2.1, by simpa using h⟩
  · intro h; simpa using h.2
theorem evs_two {p s : Aut} (hp : Okay p) (hs : Okay s) (hsub : ∀ x ∈ s.al, x ∈ p.al) : evs [p, s] = p.al := by
  have ho : ∀ a ∈ [p, s], Okay a := fun a ha => by
    simp only [List.mem_cons, List.not_mem_nil, or_false] at ha
    rcases ha with rfl | rfl
    · exact hp
    · exact hs
  refine Inc.ext (evs_inc ho) hp.ali fun x => ?_
  rw [evs_mem ho]
  simp only [List.mem_cons, List.not_mem_nil, or_false, exists_eq_or_imp, exists_eq_left]
  exact ⟨fun h => h.elim id (hsub x), .inl⟩
/-- The law's lists. -/
def yesP (p s : Aut) (x y : Int) (v : Int) : Bool := decide (0 ≤ nxt p.ed x v) && !(decide (v ∈ s.al) && decide (nxt s.ed y v < 0))
def noP (p s : Aut) (x y : Int) (v : Int) : Bool := decide (0 ≤ nxt p.ed x v) && (decide (v ∈ s.al) && decide (nxt s.ed y v < 0))
theorem step_yes {p s : Aut} (hp : Okay p) (hs : Okay s) (x y : Int) {v : Int} (hv : v ∈ p.al) : (stepT v [p, s] [x, y]).isSome = yesP p s x y v := by
  have h1 := nxt_nonneg hp x v
  have h2 := nxt_nonneg hs y v
  unfold yesP
  rw [stepT, if_neg (fun e => e hv)]
  cases hx : eget p.ed x v with
  | none =>
    rw [hx] at h1
    have : ¬ 0 ≤ nxt p.ed x v := fun h => by have := h1.1 h; cases this
    simp [this]
  | some u =>
    rw [hx] at h1
    have h3 : 0 ≤ nxt p.ed x v := h1.2 rfl
    simp only [Option.isSome_map, decide_eq_true h3, Bool.true_and]
    rw [stepT]
    by_cases hvs : v ∈ s.al
    · rw [if_neg (fun e => e hvs)]
      cases hy : eget s.ed y v with
      | none =>
        rw [hy] at h2
        have : ¬ 0 ≤ nxt s.ed y v := fun h => by have := h2.1 h; cases this
        simp [hvs]; omega
      | some t =>
        rw [hy] at h2
        have : 0 ≤ nxt s.ed y v := h2.2 rfl
        simp [hvs, stepT]; omega
    · rw [if_pos hvs]; simp [hvs, stepT]
theorem after_on {p s : Aut} (hp : Okay p) (hs : Okay s) (hsub : ∀ x ∈ s.al, x ∈ p.al) {A : Aut} {Q : List (List Int)} (h : SyP [p, s] A Q) {j : Nat} (hj : j < Q.length) {x y : Int} (hq : Q.getD j [] = [x, y]) : enb A j = p.al.filter (yesP p s x y) := by
  rw [enb_syP h hj, evs_two hp hs hsub, hq]
  exact List.filter_congr fun v hv => step_yes hp hs x y hv
theorem after_off {p s : Aut} (hp : Okay p) (x y : Int) : mrg (fun p q => p && !q) (enb p x) (p.al.filter (yesP p s x y)) = p.al.filter (noP p s x y) := by
  have i1 := enb_inc hp x
  have i2 : Inc (p.al.filter (yesP p s x y)) := List.Pairwise.sublist List.filter_sublist hp.ali
  refine Inc.ext (mrg_inc _ _ _ _ (Nat.le_refl _) i1 i2) (List.Pairwise.sublist List.filter_sublist hp.ali) fun v => ?_
  rw [mem_mrg i1 i2]
  simp only [Bool.and_eq_true, decide_eq_true_eq, Bool.not_eq_true', decide_eq_false_iff_not]
  rw [enb_filter hp]
  simp only [List.mem_filter]
  unfold yesP noP
  simp only [Bool.and_eq_true, decide_eq_true_eq, Bool.not_eq_true', Bool.and_eq_false_iff, decide_eq_false_iff_not]
  constructor
  · rintro ⟨_, ⟨h1, h2⟩, h3⟩
    refine ⟨h1, h2, ?_⟩
    by_cases h4 : v ∈ s.al
    · by_cases h5 : nxt s.ed y v < 0
      · exact ⟨h4, h5⟩
      · exact absurd ⟨h1, h2, .inr h5⟩ h3
    · exact absurd ⟨h1, h2, .inl h4⟩ h3
  · rintro ⟨h1, h2, h3, h4⟩
    exact ⟨.inl ⟨h1, h2⟩, ⟨h1, h2⟩, fun h => h.2.2.elim (fun e => e h3) (fun e => e h4)⟩
/-! ### What After returns -/
def afE (p s : Aut) (u : List Int) : Int := if opE p s ≠ 0 then opE p s else if gens (opA p s) u = false then 10 else 0
def afAt (p s : Aut) (u : List Int) : Int := (flw (opA p s) 0 u).1
def afOn (p s : Aut) (u : List Int) : List Int := enb (opA p s) (afAt p s u)
def afOff (p s : Aut) (u : List Int) : List Int := mrg (fun p q => p && !q) (enb p (px ((opQ p s).getD (afAt p s u).toNat []))) (afOn p s u)
theorem opE_syP {p s : Aut} (h : opE p s = 0) : SyP [p, s] (opA p s) (opQ p s) ∧ Okay (opA p s) ∧ ((opQ p s).length = 0 ↔ p.st = 0 ∨ s.st = 0) := by
  obtain ⟨h1, h2, h3, _⟩ := opE_zero h
  have ho : ∀ a ∈ [p, s], Okay a := fun a ha => by
    simp only [List.mem_cons, List.not_mem_nil, or_false] at ha
    rcases ha with rfl | rfl
    · exact h1
    · exact h2
  obtain ⟨k1, k2⟩ := sync_spec ho h3
  exact ⟨k1, k1.okay ho, by rw [k2]; simp⟩
/-- The state after a word that is generated. -/
theorem gens_at {A : Aut} (ho : Okay A) {aa : List Aut} {Q : List (List Int)} (h : SyP aa A Q) {u : List Int} (hg : gens A u = true) : ∃ j : Nat, j < Q.length ∧ flw A 0 u = ((j : Int), u.length) ∧ goT aa (Q.getD 0 []) u = some (Q.getD j []) := by
  unfold gens at hg
  rw [if_neg (by simpa using (ckA_zero A).2 ho)] at hg
  unfold rchd at hg
  split at hg
  · cases hg
  · rename_i hz
    have hst := h.st
    have h0 : 0 < Q.length := by omega
    rcases go_flw h u 0 h0 with ⟨j, k1, k2, k3⟩ | ⟨k1, _⟩
    · exact ⟨j, k1, k2, k3⟩
    · simp only [decide_eq_true_eq] at hg
      have : ((0 : Nat) : Int) = 0 := rfl
      rw [this] at k1
      omega
theorem gens_not {A : Aut} (ho : Okay A) {aa : List Aut} {Q : List (List Int)} (h : SyP aa A Q) {u : List Int} (hg : gens A u = false) : Q.length = 0 ∨ goT aa (Q.getD 0 []) u = none := by
  unfold gens at hg
  rw [if_neg (by simpa using (ckA_zero A).2 ho)] at hg
  unfold rchd at hg
  have hst := h.st
  by_cases h0 : Q.length = 0
  · exact .inl h0
  · right
    rw [if_neg (by omega)] at hg
    rcases go_flw h u 0 (by omega) with ⟨j, k1, k2, k3⟩ | ⟨_, k2⟩
    · have : ((0 : Nat) : Int) = 0 := rfl
      rw [this] at k2
      rw [k2] at hg
      simp at hg
    · exact k2
theorem flw_al {a : Aut} (ho : Okay a) : ∀ (u : List Int) (s : Int), (flw a s u).2 = u.length → ∀ e ∈ u, e ∈ a.al
  | [], _, _, e, he => by cases he
  | v :: u, s, h, e, he => by
    rw [flw] at h
    split at h
    · simp at h
    · rename_i hn
      rcases List.mem_cons.1 he with rfl | he
      · exact (ho.ed _ (nxt_mem (show 0 ≤ nxt a.ed s e by omega))).2.2.1
      · exact flw_al ho u _ (by simpa using h) e he
theorem runE_gens {a : Aut} (ho : Okay a) {u : List Int} {j : Nat} (hj : (j : Int) < a.st) (h : flw a 0 u = ((j : Int), u.length)) : runE a 0 u = 0 := by
  unfold runE
  rw [cks_ok ho (Int.le_refl 0) (by omega), if_neg (by simp), if_neg]
  rw [Bool.not_eq_true, List.any_eq_false]
  intro e he
  have := flw_al ho u 0 (by rw [h]) e he
  simp [this]
end Go.Proofs.YtfhgnlkdcdlblaaGreatDoor
/- What supervisor.Equivalent computes, as plain functions. -/
namespace Go.Proofs.YtfhgnlkdcdlblaaGreatDoor
open Go.Lg

structure En where
  x : Int
  y : Int
  u : List Int
def En.ky (e : En) : Int × Int := (e.x, e.y)
def dfr (a b : Aut) (x y : Int) : Bool := !(decide (x = -1) == decide (y = -1)) || !(decide (x ∈ a.mr) == decide (y ∈ b.mr))
def enN (a b : Aut) (e : En) (v : Int) : En := ⟨nxt a.ed e.x v, nxt b.ed e.y v, e.u ++ [v]⟩
def eqS (a b : Aut) (e : En) (L : List En) (v : Int) : List En := if (enN a b e v).ky ≠ (-1, -1) ∧ (enN a b e v).ky ∉ (L.drop 1).map En.ky then L ++ [enN a b e v] else L
def en0 : En := ⟨-1, -1, []⟩
def eqL (a b : Aut) (al : List Int) : Nat → Nat → List En → Option (List Int)
  | 0, _, _ => none
  | f + 1, i, L => if i < L.length then (if dfr a b (L.getD i en0).x (L.getD i en0).y = true then some (L.getD i en0).u else eqL a b al f (i + 1) (al.foldl (eqS a b (L.getD i en0)) L)) else none
def eqI (a b : Aut) : List En := [⟨if 0 < a.st then 0 else -1, if 0 < b.st then 0 else -1, []⟩]
/-- The word that tells two automata apart; none: there is none. -/
def eqv (a b : Aut) (al : List Int) : Option (List Int) := eqL a b al ((a.st.toNat + 1) * (b.st.toNat + 1) + 1) 0 (eqI a b)
/-- A state, or none. -/
def St1 (a : Aut) (x : Int) : Prop := -1 ≤ x ∧ x < a.st
theorem nxt_st1 {a : Aut} (ho : Okay a) (x v : Int) : St1 a (nxt a.ed x v) := by
  have h0 := ho.st0
  unfold St1
  by_cases h : nxt a.ed x v < 0
  · have : nxt a.ed x v = -1 := by
      rw [nxt_eget] at h ⊢
      cases hg : eget a.ed x v with
      | none => rfl
      | some u =>
        rw [hg] at h
        have := (ho.ed _ (eget_mem hg)).2.2.2.1
        simp only [] at h this
        omega
    omega
  · have := nxt_lt ho h; omega
/-- What holds of the entries. -/
structure EnI (a b : Aut) (L : List En) : Prop where
  ne : 0 < L.length
  st : ∀ e ∈ L, St1 a e.x ∧ St1 b e.y
  nd : ((L.drop 1).map En.ky).Nodup
  wd : ∀ i (h : i < L.length), (L[i]'h).u.length ≤ i
theorem eqS_I {a b : Aut} (ha : Okay a) (hb : Okay b) {L : List En} (h : EnI a b L) {i : Nat} (hi : i < L.length) {e : En} (he : L[i]'hi = e) (v : Int) : EnI a b (eqS a b e L v) ∧ ∃ r, eqS a b e L v = L ++ r := by
  unfold eqS
  split
  · rename_i hc
    refine ⟨⟨by simp, fun d hd => ?_, ?_, fun k hk => ?_⟩, _, rfl⟩
    · rcases List.mem_append.1 hd with hd | hd
      · exact h.st d hd
      · simp only [List.mem_singleton] at hd; subst hd; exact ⟨nxt_st1 ha _ _, nxt_st1 hb _ _⟩
    · rw [List.drop_append_of_le_length (by have := h.ne; omega), List.map_append]
      exact nodup_snoc h.nd hc.2
    · rcases Nat.lt_or_ge k L.length with hlt | hge
      · rw [List.getElem_append_left hlt]; exact h.wd k hlt
      · rw [List.getElem_append_right hge]
        have hk' : k = L.length := by simp at hk; omega
        subst hk'
        have := h.wd i hi
        rw [he] at this
        simp [enN]; omega
  · exact ⟨h, [], by simp⟩
theorem eqS_fold {a b : Aut} (ha : Okay a) (hb : Okay b) : ∀ (vs : List Int) (L : List En) (i : Nat) (hi : i < L.length) (e : En), L[i]'hi = e → EnI a b L → EnI a b (vs.foldl (eqS a b e) L) ∧ ∃ r, vs.foldl (eqS a b e) L = L ++ r
  | [], L, _, _, _, _, h => ⟨h, [], by simp⟩
  | v :: vs, L, i, hi, e, he, h => by
    obtain ⟨h1, r, hr⟩ := eqS_I ha hb h hi he v
    have hi' : i < (eqS a b e L v).length := by rw [hr]; simp; omega
    obtain ⟨h2, r2, hr2⟩ := eqS_fold ha hb vs (eqS a b e L v) i hi' e (by simp only [hr]; rw [List.getElem_append_left hi]; exact he) h1
    exact ⟨h2, r ++ r2, by rw [List.foldl_cons, hr2, hr, List.append_assoc]⟩
/-- There are not too many. -/
theorem EnI.le {a b : Aut} (ha : Okay a) (hb : Okay b) {L : List En} (h : EnI a b L) : L.length ≤ (a.st.toNat + 1) * (b.st.toNat + 1) + 1 := by
  have h0 := ha.st0
  have h1 := hb.st0
  have key : ((L.drop 1).map fun e : En => ((e.x + 1) * ((b.st.toNat + 1 : Nat) : Int) + (e.y + 1) : Int)).Nodup := by
    have hn := h.nd
    unfold List.Nodup at hn ⊢
    rw [List.pairwise_map] at hn ⊢
    refine List.Pairwise.imp_of_mem (fun {p q} hp hq hne e => hne ?_) hn
    have sp := h.st p (List.mem_of_mem_drop hp)
    have sq := h.st q (List.mem_of_mem_drop hq)
    unfold St1 at sp sq
    have hy : p.y = q.y ∧ p.x = q.x := by
      have e2 : ((b.st.toNat + 1 : Nat) : Int) = b.st + 1 := by omega
      rw [e2] at e
      have l1 : 0 ≤ p.y + 1 ∧ p.y + 1 < b.st + 1 := by omega
      have l2 : 0 ≤ q.y + 1 ∧ q.y + 1 < b.st + 1 := by omega
      have m1 : ((p.x + 1) * (b.st + 1) + (p.y + 1)) % (b.st + 1) = p.y + 1 := by rw [Int.mul_comm, Int.mul_add_emod_self_left]; exact Int.emod_eq_of_lt l1.1 l1.2
      have m2 : ((q.x + 1) * (b.st + 1) + (q.y + 1)) % (b.st + 1) = q.y + 1 := by rw [Int.mul_comm, Int.mul_add_emod_self_left]; exact Int.emod_eq_of_lt l2.1 l2.2
      have d1 : ((p.x + 1) * (b.st + 1) + (p.y + 1)) / (b.st + 1) = p.x + 1 := by rw [Int.mul_comm, Int.mul_add_ediv_left _ _ (by omega), Int.ediv_eq_zero_of_lt l1.1 l1.2]; omega
      have d2 : ((q.x + 1) * (b.st + 1) + (q.y + 1)) / (b.st + 1) = q.x + 1 := by rw [Int.mul_comm, Int.mul_add_ediv_left _ _ (by omega), Int.ediv_eq_zero_of_lt l2.1 l2.2]; omega
      rw [e] at m1 d1
      constructor
      · omega
      · omega
    unfold En.ky
    rw [hy.1, hy.2]
  have := pig ((a.st.toNat + 1) * (b.st.toNat + 1)) _ key (fun z hz => by
    obtain ⟨e, he, rfl⟩ := List.mem_map.1 hz
    have se := h.st e (List.mem_of_mem_drop he)
    unfold St1 at se
    have e1 : 0 ≤ e.x + 1 ∧ e.x + 1 ≤ a.st.toNat := by omega
    have e2 : 0 ≤ e.y + 1 ∧ e.y + 1 ≤ b.st.toNat := by omega
    obtain ⟨p, hp⟩ := Int.eq_ofNat_of_zero_le e1.1
    obtain ⟨q, hq⟩ := Int.eq_ofNat_of_zero_le e2.1
    rw [hp, hq]
    have e3 : p ≤ a.st.toNat := by omega
    have e4 : q ≤ b.st.toNat := by omega
    have : p * (b.st.toNat + 1) + q < (a.st.toNat + 1) * (b.st.toNat + 1) := by
      have := Nat.mul_le_mul_right (b.st.toNat + 1) e3
      rw [Nat.add_mul]; omega
    refine ⟨Int.add_nonneg (Int.mul_nonneg (by omega) (by omega)) (by omega), ?_⟩
    exact_mod_cast this)
  simp at this
  omega
theorem eqI_I (a b : Aut) (h0 : 0 ≤ a.st) (h1 : 0 ≤ b.st) : EnI a b (eqI a b) := by
  refine ⟨by simp [eqI], fun e he => ?_, by simp [eqI], fun i hi => ?_⟩
  · simp only [eqI, List.mem_singleton] at he
    subst he
    unfold St1
    simp only []
    constructor
    · split <;> omega
    · split <;> omega
  · simp [eqI]
end Go.Proofs.YtfhgnlkdcdlblaaGreatDoor
/- Supervisors that do the same with a plant: a relation of their states; then Equivalent finds no word. -/
namespace Go.Proofs.YtfhgnlkdcdlblaaGreatDoor
open Go.Lg

theorem eqS_all {a b : Aut} {Rl : Int → Int → Prop} {al : List Int} (hs : ∀ x y v, v ∈ al → Rl x y → Rl (nxt a.ed x v) (nxt b.ed y v)) {e : En} (he : Rl e.x e.y) : ∀ (vs : List Int) (L : List En), (∀ v ∈ vs, v ∈ al) → (∀ d ∈ L, Rl d.x d.y) → ∀ d ∈ vs.foldl (eqS a b e) L, Rl d.x d.y
  | [], L, _, h => h
  | v :: vs, L, hv, h => by
    refine eqS_all hs he vs (eqS a b e L v) (fun u hu => hv u (List.mem_cons_of_mem _ hu)) fun d hd => ?_
    unfold eqS at hd
    split at hd
    · rcases List.mem_append.1 hd with hd | hd
      · exact h d hd
      · simp only [List.mem_singleton] at hd
        subst hd
        exact hs e.x e.y v (hv v List.mem_cons_self) he
    · exact h d hd
theorem eqL_none {a b : Aut} {Rl : Int → Int → Prop} {al : List Int} (hs : ∀ x y v, v ∈ al → Rl x y → Rl (nxt a.ed x v) (nxt b.ed y v)) (hd : ∀ x y, Rl x y → dfr a b x y = false) : ∀ (f i : Nat) (L : List En), (∀ d ∈ L, Rl d.x d.y) → eqL a b al f i L = none
  | 0, _, _, _ => rfl
  | f + 1, i, L, h => by
    rw [eqL]
    split
    · rename_i hi
      have hm : L.getD i en0 ∈ L := by simp [List.getD, hi]
      rw [if_neg (by rw [hd _ _ (h _ hm)]; simp)]
      exact eqL_none hs hd f (i + 1) _ (eqS_all hs (h _ hm) al L (fun _ h => h) h)
    · rfl
theorem eqv_none {a b : Aut} {Rl : Int → Int → Prop} {al : List Int} (h0 : Rl (if 0 < a.st then 0 else -1) (if 0 < b.st then 0 else -1)) (hs : ∀ x y v, v ∈ al → Rl x y → Rl (nxt a.ed x v) (nxt b.ed y v)) (hd : ∀ x y, Rl x y → dfr a b x y = false) : eqv a b al = none :=
  eqL_none hs hd _ _ _ (fun d hd => by simp only [eqI, List.mem_singleton] at hd; subst hd; exact h0)
/-- A relation of the states of two supervisors of a plant. -/
structure Bis (p s t : Aut) (R : Int → Int → Int → Prop) : Prop where
  init : R 0 0 0
  step : ∀ pn xn yn, R pn xn yn → ∀ v ∈ p.al, (stepT v [p, s] [pn, xn] = none ∧ stepT v [p, t] [pn, yn] = none) ∨ ∃ p' x' y', stepT v [p, s] [pn, xn] = some [p', x'] ∧ stepT v [p, t] [pn, yn] = some [p', y'] ∧ R p' x' y'
  mark : ∀ pn xn yn, R pn xn yn → markT [p, s] [pn, xn] = markT [p, t] [pn, yn]
theorem Bis.comp {p s r t : Aut} {R1 R2 : Int → Int → Int → Prop} (h : Bis p s r R1) (k : Bis p r t R2) : Bis p s t (fun pn xn yn => ∃ c, R1 pn xn c ∧ R2 pn c yn) := by
  refine ⟨⟨0, h.init, k.init⟩, ?_, ?_⟩
  · rintro pn xn yn ⟨c, h1, h2⟩ v hv
    rcases h.step pn xn c h1 v hv with ⟨a1, a2⟩ | ⟨p', x', c', a1, a2, a3⟩
    · rcases k.step pn c yn h2 v hv with ⟨b1, b2⟩ | ⟨p', c', y', b1, b2, b3⟩
      · exact .inl ⟨a1, b2⟩
      · rw [a2] at b1; cases b1
    · rcases k.step pn c yn h2 v hv with ⟨b1, b2⟩ | ⟨p'', c'', y', b1, b2, b3⟩
      · rw [a2] at b1; cases b1
      · rw [a2] at b1
        simp only [Option.some.injEq, List.cons.injEq, and_true] at b1
        obtain ⟨rfl, rfl⟩ := b1
        exact .inr ⟨p', x', y', a1, b2, c', a3, b3⟩
  · rintro pn xn yn ⟨c, h1, h2⟩
    exact (h.mark pn xn c h1).trans (k.mark pn c yn h2)
theorem SyP.mem_mr {aa : List Aut} {A : Aut} {Q : List (List Int)} (h : SyP aa A Q) {j : Nat} (hj : j < Q.length) : decide ((j : Int) ∈ A.mr) = markT aa (Q.getD j []) := by
  rw [h.mk2]
  rw [Bool.eq_iff_iff]
  simp only [decide_eq_true_eq, List.mem_map, List.mem_filter, List.mem_range'_1]
  constructor
  · rintro ⟨i, ⟨_, h2⟩, h3⟩
    have : i = j := by omega
    subst this; exact h2
  · intro h2; exact ⟨j, ⟨by omega, h2⟩, rfl⟩
theorem bis_none {p s t A B : Aut} {QA QB : List (List Int)} (hA : SyP [p, s] A QA) (hB : SyP [p, t] B QB) (ea : evs [p, s] = p.al) (eb : evs [p, t] = p.al) (hoA : Okay A) (hoB : Okay B) {R : Int → Int → Int → Prop} (h : Bis p s t R) (hz : QA.length = 0 ↔ QB.length = 0) : eqv A B p.al = none := by
  have hstA := hA.st
  have hstB := hB.st
  refine eqv_none (Rl := fun x y => (x = -1 ∧ y = -1) ∨ ∃ i j : Nat, x = i ∧ y = j ∧ i < QA.length ∧ j < QB.length ∧ ∃ pn xn yn, QA.getD i [] = [pn, xn] ∧ QB.getD j [] = [pn, yn] ∧ R pn xn yn) ?_ ?_ ?_
  · by_cases h0 : QA.length = 0
    · left
      have := hz.1 h0
      rw [if_neg (by omega), if_neg (by omega)]; exact ⟨rfl, rfl⟩
    · have h1 : ¬ QB.length = 0 := fun e => h0 (hz.2 e)
      right
      rw [if_pos (by omega), if_pos (by omega)]
      exact ⟨0, 0, rfl, rfl, by omega, by omega, 0, 0, 0, hA.hd (by omega), hB.hd (by omega), h.init⟩
  · rintro x y v hv (⟨rfl, rfl⟩ | ⟨i, j, rfl, rfl, hi, hj, pn, xn, yn, h1, h2, h3⟩)
    · left
      have key : ∀ {a : Aut}, Okay a → nxt a.ed (-1) v = -1 := fun {a} ho => by
        rw [nxt_eget]
        cases hg : eget a.ed (-1) v with
        | none => rfl
        | some u => have := (ho.ed _ (eget_mem hg)).1; simp only [] at this; omega
      exact ⟨key hoA, key hoB⟩
    · have sA := hA.step hi v
      have sB := hB.step hj v
      rw [if_pos (by rw [ea]; exact hv), h1] at sA
      rw [if_pos (by rw [eb]; exact hv), h2] at sB
      rcases h.step pn xn yn h3 v hv with ⟨a1, a2⟩ | ⟨p', x', y', a1, a2, a3⟩
      · left
        rw [a1] at sA
        rw [a2] at sB
        rw [nxt_eget, nxt_eget, sA, sB]; exact ⟨rfl, rfl⟩
      · right
        have tA := hA.to hi (by rw [ea]; exact hv) (by rw [h1]; exact a1)
        have tB := hB.to hj (by rw [eb]; exact hv) (by rw [h2]; exact a2)
        rw [a1] at sA
        rw [a2] at sB
        refine ⟨QA.idxOf [p', x'], QB.idxOf [p', y'], ?_, ?_, tA.1, tB.1, p', x', y', tA.2, tB.2, a3⟩
        · rw [nxt_eget, sA]; rfl
        · rw [nxt_eget, sB]; rfl
  · rintro x y (⟨rfl, rfl⟩ | ⟨i, j, rfl, rfl, hi, hj, pn, xn, yn, h1, h2, h3⟩)
    · unfold dfr
      have ma : decide ((-1 : Int) ∈ A.mr) = false := decide_eq_false fun hm => by have := (hoA.mr _ hm).1; omega
      have mb : decide ((-1 : Int) ∈ B.mr) = false := decide_eq_false fun hm => by have := (hoB.mr _ hm).1; omega
      rw [ma, mb]; rfl
    · unfold dfr
      rw [hA.mem_mr hi, hB.mem_mr hj, h1, h2, h.mark pn xn yn h3, decide_eq_false (show ¬ (i : Int) = -1 by omega), decide_eq_false (show ¬ (j : Int) = -1 by omega)]
      simp
/-- The closed loop is a supervisor that does the same. -/
theorem bis_loop {p s A : Aut} {QA : List (List Int)} (hp : Okay p) (hs : Okay s) (hsub : ∀ x ∈ s.al, x ∈ p.al) (hA : SyP [p, s] A QA) (h0 : 0 < QA.length) : Bis p s A (fun pn xn yn => ∃ j : Nat, yn = j ∧ j < QA.length ∧ QA.getD j [] = [pn, xn]) := by
  have ea := evs_two hp hs hsub
  refine ⟨⟨0, rfl, h0, hA.hd h0⟩, ?_, ?_⟩
  · rintro pn xn yn ⟨j, rfl, hj, hq⟩ v hv
    have sA := hA.step hj v
    rw [if_pos (by rw [ea]; exact hv), hq] at sA
    have hAal : v ∈ A.al := by rw [hA.al, ea]; exact hv
    cases hst : stepT v [p, s] [pn, xn] with
    | none =>
      left
      refine ⟨rfl, ?_⟩
      rw [hst] at sA
      rw [stepT, if_neg (fun h => h hv)]
      cases eget p.ed pn v with
      | none => rfl
      | some u =>
        simp only []
        rw [stepT, if_neg (fun h => h hAal), sA]; rfl
    | some t =>
      right
      have hv2 := stepT_valid (aa := [p, s]) (fun a ha => by simp only [List.mem_cons, List.not_mem_nil, or_false] at ha; rcases ha with rfl | rfl; exact hp; exact hs) (hA.v _ (by rw [← hq]; simp [List.getD, hj])) hst
      obtain ⟨a, b, rfl, _, _⟩ := Vt2 hv2
      have tA := hA.to hj (by rw [ea]; exact hv) (by rw [hq]; exact hst)
      rw [hst] at sA
      refine ⟨a, b, QA.idxOf [(a : Int), (b : Int)], rfl, ?_, QA.idxOf [(a : Int), (b : Int)], rfl, tA.1, tA.2⟩
      rw [stepT, if_neg (fun h => h hv)] at hst ⊢
      cases hep : eget p.ed pn v with
      | none => rw [hep] at hst; cases hst
      | some u =>
        rw [hep] at hst
        simp only [] at hst ⊢
        rw [stepT, if_neg (fun h => h hAal), sA]
        obtain ⟨u', _, hu⟩ := Option.map_eq_some_iff.1 hst
        simp only [List.cons.injEq] at hu
        rw [hu.1]
        rfl
  · rintro pn xn yn ⟨j, rfl, hj, hq⟩
    have hm := hA.mem_mr hj
    rw [hq] at hm
    have e1 : markT [p, s] [pn, xn] = (decide (pn ∈ p.mr) && (decide (xn ∈ s.mr) && true)) := rfl
    have e2 : markT [p, A] [pn, (j : Int)] = (decide (pn ∈ p.mr) && (decide ((j : Int) ∈ A.mr) && true)) := rfl
    rw [e2, hm, e1]
    cases decide (pn ∈ p.mr) <;> simp
end Go.Proofs.YtfhgnlkdcdlblaaGreatDoor
/- Contracts: alphabet.CheckSet, reach.checkSet, checkStates, controllable.steps. -/
namespace Go.Proofs.YtfhgnlkdcdlblaaGreatDoor
open Go.Lg
theorem rcheckSet_ok {L : List Nat} {w : World} {v : Value} {l : List Int} (h : Ints L w.heap v l) (n : Int) :
    Ret Tryz.prog 67 [v, .int .i64 n] w fun r w' => r = .int .i64 (ckS n none l) ∧ w' = w := by
  have hle := h.le
  refine Ret.of_W Tryz.func67 rfl Tryz.ntmps67 Tryz.results67 (by simp) ?_
  refine W_seq <| W_region (by rfl) ?_
  refine x r_assign <| xe ?_
  refine W_seq <| W_seq <| W_region (by rfl) ?_
  refine x r_move <| x (r_lenA h rfl) <| x r_move <| xe ?_
  refine W_block <| W_loop (α := Nat) [(4, 6), (9, 34)] (fun k => [(9, .int .i64 k)]) (fun k w' => w' = w ∧ k ≤ l.length ∧ ckS n (pv l k) (l.drop k) = ckS n none l) (fun k => l.length - k) (by rfl) 0 ⟨rfl, trivial⟩ ⟨rfl, Nat.zero_le _, rfl⟩ ?_
  rintro k g w1 ⟨rfl, hk, hm⟩
  refine W_seq <| W_region (by rfl) ?_
  refine x (r_lss rfl rfl) <| xe ?_
  refine W_seq <| W_ifn rfl (fun h10 => ?_) (fun h10 => ?_)
  · refine W_exit ?_
    refine W_seq <| W_region (by rfl) ?_
    refine x r_assign <| xe ?_
    refine W_ret ⟨[.int .i64 0], ⟨rfl, trivial⟩, ?_, rfl⟩
    rw [← hm, List.drop_of_length_le (by omega)]; rfl
  have hlt : k < l.length := by omega
  have hd := drop_cons hlt
  rw [hd, ckS] at hm
  refine W_skip ?_
  refine W_seq <| W_block <| W_seq <| W_region (by rfl) ?_
  refine x r_move <| xii h rfl rfl hlt fun a12 h12 => x (r_loadA h12 rfl) <| x r_assign <| x r_assign <| xe ?_
  refine W_block <| W_cut (α := Bool) [(14, 21)] (fun z => [(14, .bool z)]) (fun z w' => w' = w1 ∧ z = decide (l[k] < 0 ∨ n ≤ l[k])) (by rfl) ?_ ?_
  · refine W_region (by rfl) ?_
    refine x r_move <| xb (r_lss rfl rfl) (fun h16 => ?_) (fun h16 => ?_)
    · refine x r_move <| xs rfl <| xs rfl <| xs rfl <| x (r_pick rfl) <| x r_assign <| xe ?_
      exact ⟨true, ⟨rfl, trivial⟩, rfl, by simp [h16]⟩
    refine x r_move <| x r_move <| x r_move <| x (r_geq rfl rfl) <| x (r_pick rfl) <| x r_assign <| xe ?_
    exact ⟨_, ⟨rfl, trivial⟩, rfl, by simp [h16]⟩
  rintro z g w2 ⟨rfl, rfl⟩
  refine W_if rfl (fun h14 => ?_) (fun h14 => ?_)
  · refine W_seq <| W_region (by rfl) ?_
    refine x r_assign <| xe ?_
    refine W_ret ⟨[.int .i64 2], ⟨rfl, trivial⟩, ?_, rfl⟩
    rw [← hm, if_pos h14]; rfl
  rw [if_neg h14] at hm
  refine W_cut (α := Bool) [(22, 33)] (fun z => [(22, .bool z)]) (fun z w' => w' = w2 ∧ z = leO (pv l k) l[k]) (by rfl) ?_ ?_
  · refine W_region (by rfl) ?_
    refine x r_move <| xb (r_gtr rfl rfl) (fun h24 => ?_) (fun h24 => ?_)
    · have hk1 : ((k : Int) - 1) = ((k - 1 : Nat) : Int) := by omega
      refine x r_move <| x r_move <| x r_move <| x r_move <| x (r_sub rfl rfl ⟨by omega, by omega⟩) <| xii (i := k - 1) h rfl (by show Value.int _ ((k : Int) - 1) = _; rw [hk1]) (by omega) fun a30 h30 => x (r_loadA h30 rfl) <| x (r_leq rfl rfl) <| x (r_pick rfl) <| x r_assign <| xe ?_
      refine ⟨_, ⟨rfl, trivial⟩, rfl, ?_⟩
      have : pv l k = some l[k - 1] := by
        have h0 : k ≠ 0 := by omega
        simp [pv, h0, show k - 1 < l.length by omega]
      rw [this]; rfl
    refine x r_move <| xs rfl <| xs rfl <| xs rfl <| xs rfl <| xs rfl <| xs rfl <| xs rfl <| x (r_pick rfl) <| x r_assign <| xe ?_
    have h0 : k = 0 := by omega
    exact ⟨false, ⟨rfl, trivial⟩, rfl, by simp [pv, h0, leO]⟩
  rintro z g w3 ⟨rfl, rfl⟩
  refine W_cond rfl (fun h22 => ?_) (fun h22 => ?_)
  · refine W_seq <| W_region (by rfl) ?_
    refine x r_assign <| xe ?_
    refine W_ret ⟨[.int .i64 5], ⟨rfl, trivial⟩, ?_, rfl⟩
    rw [← hm, if_pos h22]; rfl
  rw [if_neg (by simp [h22])] at hm
  refine W_skip ?_
  refine W_region (by rfl) ?_
  refine x (r_add rfl rfl ⟨by omega, by omega⟩) <| x r_move <| xe ?_
  exact ⟨k + 1, by omega, ⟨rfl, trivial⟩, rfl, by omega, by rw [pv_succ hlt]; exact hm⟩

theorem CheckSet_ok {L : List Nat} {w : World} {v : Value} {l : List Int} (h : Ints L w.heap v l) (n : Int) :
    Ret Tryz.prog 24 [v, .int .i64 n] w fun r w' => r = .int .i64 (ckS n none l) ∧ w' = w := by
  have hle := h.le
  refine Ret.of_W Tryz.func24 rfl Tryz.ntmps24 Tryz.results24 (by simp) ?_
  refine W_seq <| W_region (by rfl) ?_
  refine x r_assign <| xe ?_
  refine W_seq <| W_seq <| W_region (by rfl) ?_
  refine x r_move <| x (r_lenA h rfl) <| x r_move <| xe ?_
  refine W_block <| W_loop (α := Nat) [(4, 6), (9, 32)] (fun k => [(9, .int .i64 k)]) (fun k w' => w' = w ∧ k ≤ l.length ∧ ckS n (pv l k) (l.drop k) = ckS n none l) (fun k => l.length - k) (by rfl) 0 ⟨rfl, trivial⟩ ⟨rfl, Nat.zero_le _, rfl⟩ ?_
  rintro k g w1 ⟨rfl, hk, hm⟩
  refine W_seq <| W_region (by rfl) ?_
  refine x (r_lss rfl rfl) <| xe ?_
  refine W_seq <| W_ifn rfl (fun h10 => ?_) (fun h10 => ?_)
  · refine W_exit ?_
    refine W_seq <| W_region (by rfl) ?_
    refine x r_assign <| xe ?_
    refine W_ret ⟨[.int .i64 0], ⟨rfl, trivial⟩, ?_, rfl⟩
    rw [← hm, List.drop_of_length_le (by omega)]; rfl
  have hlt : k < l.length := by omega
  have hd := drop_cons hlt
  rw [hd, ckS] at hm
  refine W_skip ?_
  refine W_seq <| W_block <| W_seq <| W_region (by rfl) ?_
  refine x r_move <| xii h rfl rfl hlt fun a12 h12 => x (r_loadA h12 rfl) <| x r_assign <| x r_assign <| xe ?_
  refine W_seq <| W_cut (α := Bool) [(14, 20)] (fun z => [(20, .bool z)]) (fun z w' => w' = w1 ∧ z = decide (l[k] < 0 ∨ n ≤ l[k])) (by rfl) ?_ ?_
  · refine W_region (by rfl) ?_
    refine x r_move <| xb (r_lss rfl rfl) (fun h16 => ?_) (fun h16 => ?_)
    · refine x r_move <| xs rfl <| xs rfl <| xs rfl <| x (r_pick rfl) <| xe ?_
      exact ⟨true, ⟨rfl, trivial⟩, rfl, by simp [h16]⟩
    refine x r_move <| x r_move <| x r_move <| x (r_geq rfl rfl) <| x (r_pick rfl) <| xe ?_
    exact ⟨_, ⟨rfl, trivial⟩, rfl, by simp [h16]⟩
  rintro z g w2 ⟨rfl, rfl⟩
  refine W_if rfl (fun h14 => ?_) (fun h14 => ?_)
  · refine W_seq <| W_region (by rfl) ?_
    refine x r_assign <| xe ?_
    refine W_ret ⟨[.int .i64 2], ⟨rfl, trivial⟩, ?_, rfl⟩
    rw [← hm, if_pos h14]; rfl
  rw [if_neg h14] at hm
  refine W_skip ?_
  refine W_cut (α := Bool) [(21, 31)] (fun z => [(31, .bool z)]) (fun z w' => w' = w2 ∧ z = leO (pv l k) l[k]) (by rfl) ?_ ?_
  · refine W_region (by rfl) ?_
    refine x r_move <| xb (r_gtr rfl rfl) (fun h24 => ?_) (fun h24 => ?_)
    · have hk1 : ((k : Int) - 1) = ((k - 1 : Nat) : Int) := by omega
      refine x r_move <| x r_move <| x r_move <| x r_move <| x (r_sub rfl rfl ⟨by omega, by omega⟩) <| xii (i := k - 1) h rfl (by show Value.int _ ((k : Int) - 1) = _; rw [hk1]) (by omega) fun a30 h30 => x (r_loadA h30 rfl) <| x (r_leq rfl rfl) <| x (r_pick rfl) <| xe ?_
      refine ⟨_, ⟨rfl, trivial⟩, rfl, ?_⟩
      have : pv l k = some l[k - 1] := by
        have h0 : k ≠ 0 := by omega
        simp [pv, h0, show k - 1 < l.length by omega]
      rw [this]; rfl
    refine x r_move <| xs rfl <| xs rfl <| xs rfl <| xs rfl <| xs rfl <| xs rfl <| xs rfl <| x (r_pick rfl) <| xe ?_
    have h0 : k = 0 := by omega
    exact ⟨false, ⟨rfl, trivial⟩, rfl, by simp [pv, h0, leO]⟩
  rintro z g w3 ⟨rfl, rfl⟩
  refine W_cond rfl (fun h22 => ?_) (fun h22 => ?_)
  · refine W_seq <| W_region (by rfl) ?_
    refine x r_assign <| xe ?_
    refine W_ret ⟨[.int .i64 5], ⟨rfl, trivial⟩, ?_, rfl⟩
    rw [← hm, if_pos h22]; rfl
  rw [if_neg (by simp [h22])] at hm
  refine W_skip ?_
  refine W_region (by rfl) ?_
  refine x (r_add rfl rfl ⟨by omega, by omega⟩) <| x r_move <| xe ?_
  exact ⟨k + 1, by omega, ⟨rfl, trivial⟩, rfl, by omega, by rw [pv_succ hlt]; exact hm⟩

theorem checkStates_ok {L : List Nat} {w : World} {va vm ve v : Value} {a : Aut} {l : List Int} (h : Ints L w.heap v l) :
    Ret Tryz.prog 39 [.agg #[va, .int .i64 a.st, vm, ve], v] w fun r w' => r = .int .i64 (ckS a.st none l) ∧ Step [] w w' := by
  refine Ret.of_W Tryz.func39 rfl Tryz.ntmps39 Tryz.results39 (by simp) ?_
  refine W_seq <| W_region (by rfl) ?_
  refine xl rfl <| o_box (us := [va, .int .i64 a.st, vm, ve]) rfl fun b2 w1 hs1 hb2 hB2 => x r_assign <| xe ?_
  refine W_seq <| W_region (by rfl) ?_
  refine x r_move <| x (r_fieldB rfl) <| x (r_loadB hB2 rfl rfl) <| xl rfl <| xf <| (rcheckSet_ok (h.ext hs1) a.st).mono ?_
  rintro r2 w2 ⟨rfl, rfl⟩
  refine x r_assign <| xe ?_
  exact W_ret ⟨[.int .i64 (ckS a.st none l)], ⟨rfl, trivial⟩, rfl, hs1⟩
theorem csteps_ok {L : List Nat} {w : World} {va vm ve : Value} {st : Int} {es : List Ed} (h : Eds L w.heap ve es) :
    Ret Tryz.prog 65 [.agg #[va, .int .i64 st, vm, ve]] w fun r w' => Step [] w w' ∧ ∃ b, r = .map (some b) ∧ w.heap.size ≤ b ∧ MapB kPair w'.heap b (edMap [] es) := by
  have hle := h.le
  refine Ret.of_W Tryz.func65 rfl Tryz.ntmps65 Tryz.results65 (by simp) ?_
  refine W_seq <| W_region (by rfl) ?_
  refine xl rfl <| o_box (us := [va, .int .i64 st, vm, ve]) rfl fun b1 w1 hs1 hb1 hB1 => x r_assign <| xe ?_
  refine W_seq <| W_region (by rfl) ?_
  refine xl rfl <| o_makeMap kPair fun b6 w2 hs2 hb6 hm6 => x r_assign <| xe ?_
  refine W_seq <| W_seq <| W_region (by rfl) ?_
  refine x (r_fieldB rfl) <| x (r_loadB (hB1.ext hs2) rfl rfl) <| x (r_lenA h rfl) <| x r_move <| xe ?_
  have hz1 := hs1.size
  have hz2 := hs2.size
  have hl6 := hm6.lt
  have hE : Eds [b6] w2.heap ve es := (h.up (L' := [b6]) (fun b hb => .inr (by simp at hb; omega))).ext (hs1.trans hs2)
  refine W_block <| W_loop (α := Nat) [(5, 5), (10, 22)] (fun z => [(10, .int .i64 z)]) (fun z w' => z ≤ es.length ∧ Step [b6] w2 w' ∧ MapB kPair w'.heap b6 (edMap [] (es.take z))) (fun z => es.length - z) (by rfl) 0 ⟨rfl, trivial⟩
    ⟨Nat.zero_le _, Step.refl _ _, hm6⟩ ?_
  rintro k g w3 ⟨hk, hs3, hm3⟩
  have hz3 := hs3.size
  refine W_seq <| W_region (by rfl) ?_
  refine x (r_lss rfl rfl) <| xe ?_
  refine W_seq <| W_ifn rfl (fun h11 => ?_) (fun h11 => ?_)
  · refine W_exit ?_
    refine W_seq <| W_region (by rfl) ?_
    refine x r_move <| x r_assign <| xe ?_
    rw [List.take_of_length_le (by omega)] at hm3
    refine W_ret ⟨[.map (some b6)], ⟨rfl, trivial⟩, (hs1.trans hs2).then1 hs3 (by omega), b6, rfl, by omega, hm3⟩
  have hlt : k < es.length := by omega
  refine W_skip ?_
  refine W_seq <| W_block <| W_seq <| W_region (by rfl) ?_
  refine xie (hE.st hs3) rfl rfl hlt fun a12 h12 => x (r_loadsA h12 rfl rfl) <| xl rfl <| o_alloc (us := [.int .i64 0, .int .i64 0, .int .i64 0]) rfl fun b5 w4 hs4 hb5 hB5 => xl rfl <| o_stores (us := edCells es[k]) hB5 rfl rfl rfl rfl ⟨rfl, rfl, rfl, trivial⟩ fun w5 hs5 hB5 =>
    xe ?_
  have hs35 : Step [] w3 w5 := hs4.then1 hs5 hb5
  refine W_region (by rfl) ?_
  refine x r_move <| x (r_fieldB rfl) <| x (r_loadB hB5 rfl rfl) <| x (r_fieldB rfl) <| x (r_loadB hB5 rfl rfl) <| x (r_build ⟨rfl, rfl, trivial⟩) <| x (r_fieldB rfl) <|
    x (r_loadB hB5 rfl rfl) <| xl rfl <| o_update (k := (es[k].1, es[k].2.1)) (hm3.ext hs35) rfl rfl fun w6 hs6 hm6 => xe ?_
  refine W_region (by rfl) ?_
  refine x (r_add rfl rfl ⟨by omega, by omega⟩) <| x r_move <| xe ?_
  refine ⟨k + 1, by omega, ⟨rfl, trivial⟩, hlt, (hs3.trans hs35).trans' hs6, ?_⟩
  rw [edMap_take hlt]; exact hm6
end Go.Proofs.YtfhgnlkdcdlblaaGreatDoor
/- Contracts: reach.flags. -/
namespace Go.Proofs.YtfhgnlkdcdlblaaGreatDoor
open Go.Lg

def flg (n : Nat) (l : List Int) : List Bool := (List.range n).map fun i : Nat => decide ((i : Int) ∈ l)
theorem flg_len (n : Nat) (l : List Int) : (flg n l).length = n := by simp [flg]
theorem flg_get {n : Nat} {l : List Int} {i : Nat} (h : i < (flg n l).length) : (flg n l)[i]'h = decide ((i : Int) ∈ l) := by simp [flg]
theorem flg_set {n : Nat} {l : List Int} {x : Int} (h0 : 0 ≤ x) : (flg n l).set x.toNat true = flg n (l ++ [x]) := by
  apply List.ext_getElem
  · simp [flg]
  · intro i h2 h3
    rw [List.getElem_set, flg_get h3]
    by_cases e : x.toNat = i
    · have : (i : Int) = x := by omega
      rw [if_pos e, this]; simp
    · have : (i : Int) ≠ x := by omega
      rw [if_neg e, flg_get]
      simp [this]
theorem flags_ok {L : List Nat} {w : World} {va vm ve v : Value} {a : Aut} {l : List Int} {n : Nat} (h : Ints L w.heap v l) (hn : a.st = (n : Int)) (hst1 : a.st ≤ 4096) (hl : ∀ s ∈ l, 0 ≤ s ∧ s < a.st) :
    Ret Tryz.prog 40 [.agg #[va, .int .i64 a.st, vm, ve], v] w fun r w' => Step [] w w' ∧ ∃ b, r = .slice (some ⟨b, 0, none⟩) n n ∧ w.heap.size ≤ b ∧ Blk w'.heap b 4 ((flg n l).map Value.bool) := by
  have hle := h.le
  refine Ret.of_W Tryz.func40 rfl Tryz.ntmps40 Tryz.results40 (by simp) ?_
  refine W_seq <| W_region (by rfl) ?_
  refine xl rfl <| o_box (us := [va, .int .i64 a.st, vm, ve]) rfl fun b2 w1 hs1 hb2 hB2 => x r_assign <| xe ?_
  refine W_seq <| W_region (by rfl) ?_
  refine x (r_fieldB rfl) <| x (r_loadB hB2 rfl rfl) <| xl rfl <| o_make (n := n) (congrArg (Value.int .i64) hn) (congrArg (Value.int .i64) hn) (by omega) fun b10 w2 hs2 hb10 hB10 => x r_assign <| xe ?_
  have hs12 := hs1.trans hs2
  have hB0 : Blk w2.heap b10 4 ((flg n (l.take 0)).map Value.bool) := by
    have e : (List.replicate n (Value.bool false).cells.toList).flatten = (flg n (l.take 0)).map Value.bool := by
      simp only [flg, List.take_zero, List.not_mem_nil, decide_false, List.map_map]
      apply List.ext_getElem
      · simp [Value.cells]
      · intro i h1 h2
        simp [Value.cells]
    rw [← e]; exact hB10
  refine W_seq <| W_seq <| W_region (by rfl) ?_
  refine x r_move <| x (r_lenA (h.ext hs12) rfl) <| x r_move <| xe ?_
  refine W_block <| W_loop (α := Nat) [(7, 7), (13, 20)] (fun z => [(13, .int .i64 z)]) (fun z w' => z ≤ l.length ∧ Step [] w1 w' ∧ Blk w'.heap b10 4 ((flg n (l.take z)).map Value.bool)) (fun z => l.length - z) (by rfl) 0 ⟨rfl, trivial⟩ ⟨Nat.zero_le _, hs2, hB0⟩ ?_
  rintro k g w3 ⟨hk, hs3, hB3⟩
  refine W_seq <| W_region (by rfl) ?_
  refine x (r_lss rfl rfl) <| xe ?_
  refine W_seq <| W_ifn rfl (fun h14 => ?_) (fun h14 => ?_)
  · refine W_exit ?_
    have hke : l.length ≤ k := by have h15 : ¬ (k : Int) < (l.length : Int) := h14; omega
    rw [List.take_of_length_le hke] at hB3
    refine W_seq <| W_region (by rfl) ?_
    refine x r_move <| x r_assign <| xe ?_
    have hz1 := hs1.size
    exact W_ret ⟨[.slice (some ⟨b10, 0, none⟩) n n], ⟨rfl, trivial⟩, hs1.trans hs3, b10, rfl, by omega, hB3⟩
  have hlt : k < l.length := by have h15 : (k : Int) < (l.length : Int) := h14; omega
  have hx := hl _ (List.getElem_mem hlt)
  have htk : l.take (k + 1) = l.take k ++ [l[k]'hlt] := List.take_succ_eq_append_getElem hlt
  refine exE (l[k]'hlt) fun s hs => ?_
  rw [hs] at hx htk
  have hsn : s = (s.toNat : Int) := by omega
  have hset := flg_set (n := n) (l := l.take k) hx.1
  refine W_skip ?_
  refine W_seq <| W_block <| W_seq <| W_region (by rfl) ?_
  refine xii (i := k) ((h.ext hs1).ext hs3) rfl rfl hlt fun a15 h15 => ?_
  rw [hs] at h15
  refine x (r_loadA h15 rfl) <| x r_assign <| xe ?_
  refine W_region (by rfl) ?_
  refine x r_move <| x r_move <| x (r_indexB (i := s.toNat) rfl (congrArg (Value.int .i64) hsn) (by omega)) <| xl rfl <| o_store (j := 0 + s.toNat * 1) (u := .bool true) hB3 rfl rfl (by rw [List.length_map, flg_len]; omega) rfl fun w4 hs4 hB4 => xe ?_
  have hB4' : Blk w4.heap b10 4 ((flg n (l.take (k + 1))).map Value.bool) := by
    rw [htk, ← hset, List.map_set]
    simpa using hB4
  refine W_region (by rfl) ?_
  refine x (r_add rfl rfl ⟨by omega, by omega⟩) <| x r_move <| xe ?_
  exact ⟨k + 1, by omega, ⟨rfl, trivial⟩, hlt, hs3.then1 hs4 hb10, hB4'⟩
end Go.Proofs.YtfhgnlkdcdlblaaGreatDoor
/- Contract: slices.Reverse of ints, on a slice of the call's own. -/
namespace Go.Proofs.YtfhgnlkdcdlblaaGreatDoor
open Go.Lg

/-- What is turned when i pairs are done. -/
def Rv (l : List Int) (i : Nat) (li : List Int) : Prop := ∃ h : li.length = l.length, ∀ k (hk : k < l.length), li[k]'(by omega) = if k < i ∨ l.length ≤ k + i then l[l.length - 1 - k]'(by omega) else l[k]'hk
theorem Rv.start (l : List Int) : Rv l 0 l := ⟨rfl, fun k hk => by rw [if_neg (by omega)]⟩
theorem Rv.next {l li : List Int} {i : Nat} (h : Rv l i li) (hi : i < l.length - 1 - i) : Rv l (i + 1) ((li.set i (l[l.length - 1 - i]'(by omega))).set (l.length - 1 - i) (l[i]'(by omega))) := by
  obtain ⟨h1, h2⟩ := h
  refine ⟨by simp [h1], fun k hk => ?_⟩
  rw [List.getElem_set, List.getElem_set]
  by_cases e1 : l.length - 1 - i = k
  · rw [if_pos e1, if_pos (by omega)]
    congr 1; omega
  · rw [if_neg e1]
    by_cases e2 : i = k
    · rw [if_pos e2, if_pos (by omega)]
      subst e2; rfl
    · rw [if_neg e2, h2 k hk]
      by_cases e3 : k < i ∨ l.length ≤ k + i
      · rw [if_pos e3, if_pos (by omega)]
      · rw [if_neg e3, if_neg (by omega)]
theorem Rv.fin {l li : List Int} {i : Nat} (h : Rv l i li) (hi : l.length - 1 - i ≤ i) (hle : 2 * i ≤ l.length) : li = l.reverse := by
  obtain ⟨h1, h2⟩ := h
  apply List.ext_getElem
  · simp [h1]
  · intro k hk hk'
    have hk2 : k < l.length := by omega
    rw [h2 k hk2, List.getElem_reverse]
    by_cases e : k < i ∨ l.length ≤ k + i
    · rw [if_pos e]
    · rw [if_neg e]
      congr 1; omega
theorem Rv.at_i {l li : List Int} {i : Nat} (h : Rv l i li) (hi : i < l.length - 1 - i) : ∃ (h0 : i < li.length) (h3 : l.length - 1 - i < li.length), li[i]'h0 = l[i]'(by omega) ∧ li[l.length - 1 - i]'h3 = l[l.length - 1 - i]'(by omega) := by
  obtain ⟨h1, h2⟩ := h
  refine ⟨by omega, by omega, ?_, ?_⟩
  · rw [h2 i (by omega), if_neg (by omega)]
  · rw [h2 _ (by omega), if_neg (by omega)]

theorem Reverse_ok {w : World} {base : Nat} {v : Value} {l : List Int} (h : IntsO 3 base w v l) (hle : l.length ≤ 1099511627776) :
    Ret Tryz.prog 35 [v] w fun _ w' => IntsO 3 base w' v l.reverse ∧ Step (ob v) w w' := by
  refine Ret.of_W Tryz.func35 rfl Tryz.ntmps35 Tryz.results35 (by simp) ?_
  refine W_seq <| W_region (by rfl) ?_
  refine x r_move <| x (r_lenA (own_arr (L := []) h hle (by simp)) rfl) <| x (r_sub rfl rfl ⟨by omega, by omega⟩) <| x r_assign <| x r_assign <| xe ?_
  refine W_block <| W_loop (α := Nat × List Int) [(2, 3), (7, 27)] (fun z => [(2, .int .i64 z.1), (3, .int .i64 ((l.length : Int) - 1 - z.1))])
    (fun z w' => Rv l z.1 z.2 ∧ 2 * z.1 ≤ l.length ∧ Step (ob v) w w' ∧ IntsO 3 base w' v z.2) (fun z => l.length - z.1) (by rfl) (0, l) ⟨rfl, congrArg (Value.int .i64) (by simp), trivial⟩ ⟨Rv.start l, by simp, Step.refl _ _, h⟩ ?_
  rintro ⟨i, li⟩ g w1 ⟨hR, hi2, hs1, hO⟩
  simp only [] at hR hi2 hO
  refine W_seq <| W_seq <| W_region (by rfl) ?_
  refine x r_move <| x r_move <| x (r_lss rfl rfl) <| xe ?_
  refine W_ifn rfl (fun h9 => ?_) (fun h9 => ?_)
  · refine W_exit ?_
    have h10 : ¬ (i : Int) < (l.length : Int) - 1 - (i : Int) := h9
    rw [hR.fin (by omega) hi2] at hO
    exact ⟨[], trivial, hO, hs1⟩
  have h10 : (i : Int) < (l.length : Int) - 1 - (i : Int) := h9
  have hij : i < l.length - 1 - i := by omega
  have hj : (l.length : Int) - 1 - (i : Int) = ((l.length - 1 - i : Nat) : Int) := by omega
  have hlen : li.length = l.length := hR.1
  have hnx := hR.next hij
  refine Exists.elim (hR.at_i hij) fun h0 hr => Exists.elim hr fun h3 hr => ?_
  refine Exists.elim (own_slice hO (by omega)) fun gg hg => Exists.elim hg fun cap hv => ?_
  have hA1 : Ints [] w1.heap v li := own_arr hO (by omega) (by simp)
  refine W_skip ?_
  refine W_seq <| W_block <| W_draw (Step [] w1) [(0, true), (1, true), (2, true), (3, true), (4, true), (5, true), (6, true), (7, true), (8, true), (9, true), (10, true), (11, true), (12, true), (13, false), (14, true), (15, false)] Tryz.mixed (by rfl) (by kernel_rfl) (Step.drew _ _) ?_
  refine p (fun _ => r_move) <| p (fun _ => r_move) <| p (fun _ => r_move) <| p (fun _ => r_move) <| p (fun _ => r_move) <| p (fun _ => r_move) <| pii (i := l.length - 1 - i) rfl hA1 rfl (congrArg (Value.int .i64) hj) h3 fun a20 h20 => ?_
  rw [hr.2] at h20
  refine pq (fun _ hc => r_loadA (h20.ext hc) rfl) <| p (fun _ => r_move) <| p (fun _ => r_move) <| pii (i := i) rfl hA1 rfl rfl h0 fun a24 h24 => ?_
  rw [hr.1] at h24
  refine pq (fun _ hc => r_loadA (h24.ext hc) rfl) <| p (fun _ => r_indexB (i := i) (show ev _ _ = _ from hv) rfl (by omega)) <|
    pkl (hl := by kernel_rfl) <| o_storeIO (own_ext hO (Step.drew [] w1)) hv rfl rfl h0 fun w2 hs2 hO2 => p (fun _ => r_indexB (i := l.length - 1 - i) (show ev _ _ = _ from hv) (congrArg (Value.int .i64) hj) (by omega)) <|
    pkl (hl := by kernel_rfl) <| o_storeIO hO2 (by rw [List.length_set]; exact hv) rfl rfl (by rw [List.length_set]; exact h3) fun w3 hs3 hO3 => pe ?_
  refine W_region (by rfl) ?_
  refine x r_move <| x (r_add rfl rfl ⟨by omega, by omega⟩) <| x r_move <| x (r_sub rfl rfl ⟨by omega, by omega⟩) <| x r_assign <| x r_assign <| xe ?_
  exact ⟨(i + 1, _), by simp only []; omega, ⟨rfl, congrArg (Value.int .i64) (by omega), trivial⟩, hnx, by simp only []; omega, ((hs1.trans (Step.drew [] w1)).trans' hs2).trans' hs3, hO3⟩
end Go.Proofs.YtfhgnlkdcdlblaaGreatDoor
/- Loops over functions: a call of yield within an iterator, and the rule for the loop itself. -/
namespace Go.Lg
open Go.RowKit

/-! ### Regions that call yield -/
def upY (P : Program) (m : Nat) (dst : Option Nat) (f : Fr) (K : Fr → World → Prop) : Result Next → Prop
  | .ok (.value v) w' => K (putF f dst v) w'
  | .ok .skip w' => K (putF f dst undef) w'
  | .ok (.enter g args) w' => Calls P g args w' fun e w'' => match e with | .returned v => K (putF f dst v) w'' | _ => False
  | .ok (.round l fn tmps assign body) w' => RoundIn (fen none) (m - 1) P l fn tmps assign body w' fun e w'' => match e with | .returned v => K (putF f dst v) w'' | _ => False
  | _ => False
def XOY (P : Program) (m : Nat) (o : Oper) (f : Fr) (w : World) (K : Fr → World → Prop) : Prop := upY P m o.dst f K ((execOp (ev f) o).run P w)
def XLY (P : Program) (m : Nat) (ops : List Oper) (K : Fr → World → Prop) : List Oper → Fr → World → Prop
  | [], f, w => K f w
  | o :: l, f, w => bif gdF ops f o then XOY P m o f w (XLY P m ops K l) else XLY P m ops K l (putF f o.dst undef) w
section
variable {m : Nat} {P : Program} {n : Nat} {ds : List Nat}
theorem XOY.of_XO {o : Oper} {f : Fr} {w : World} {K K' : Fr → World → Prop} (hK : ∀ f w, K f w → K' f w) (h : XO P o f w K) : XOY P m o f w K' := by
  unfold XO at h; unfold XOY
  generalize (execOp (ev f) o).run P w = r at h
  cases r with
  | ok nx w' =>
    cases nx <;> simp only [upF] at h <;> simp only [upY]
    case value v => exact hK _ _ h
    case skip => exact hK _ _ h
    case enter g args =>
      refine Calls.mono h fun e w'' he => ?_
      cases e with
      | returned v => exact hK _ _ he
      | panicked c => exact he.elim
      | outgrown => exact he.elim
  | halt x w' => exact h.elim
theorem XLY.pre {ops : List Oper} {K : Fr → World → Prop} {l2 : List Oper} : ∀ (l1 : List Oper) (f : Fr) (w : World), XL P ops (fun f w => XLY P m ops K l2 f w) l1 f w → XLY P m ops K (l1 ++ l2) f w
  | [], f, w, h => by unfold XL at h; exact h
  | o :: l1, f, w, h => by
    unfold XL at h
    show (bif gdF ops f o then XOY P m o f w (XLY P m ops K (l1 ++ l2)) else XLY P m ops K (l1 ++ l2) (putF f o.dst undef) w)
    cases hg : gdF ops f o with
    | false => rw [hg] at h; exact XLY.pre l1 _ _ h
    | true => rw [hg] at h; exact XOY.of_XO (fun f w h => XLY.pre l1 f w h) h
theorem XLY.pre2 {ops : List Oper} {K : Fr → World → Prop} {o1 o2 : Oper} {l2 : List Oper} {f : Fr} {w : World} (h : XL P ops (fun f w => XLY P m ops K l2 f w) [o1, o2] f w) : XLY P m ops K (o1 :: o2 :: l2) f w := XLY.pre [o1, o2] f w h
theorem XLY.of_XL {ops : List Oper} {K : Fr → World → Prop} {l : List Oper} {f : Fr} {w : World} (h : XL P ops K l f w) : XLY P m ops K l f w := by
  have := XLY.pre (m := m) (l2 := []) l f w h
  rwa [List.append_nil] at this
theorem XOY_wpIn {o : Oper} {a : Act} {f : Fr} {w : World} {K : Fr → World → Prop} {K' : Act → World → Prop} {Q : Exit → Act → World → Prop} (h : RelG n ds a f)
    (hK : ∀ v w', K (putF f o.dst v) w' → K' (a.put o.dst v) w') (hx : XOY P m o f w K) : o.wpIn (fen none) m P a w K' Q := by
  unfold XOY at hx
  refine ⟨fun _ _ => trivial, ?_⟩
  have e : Oper.semAt (fen none).round a.eval o = execOp (ev f) o := by rw [h.eval]; rfl
  rw [e]
  generalize (execOp (ev f) o).run P w = r at hx
  cases r with
  | ok nx w' =>
    cases nx <;> simp only [upY] at hx <;> simp only [Oper.uponIn]
    case value v => exact hK v w' hx
    case skip => exact hK _ w' hx
    case enter g args =>
      refine ⟨fun h => by simp [Fence.wide] at h, ?_⟩
      refine (callsIn_wide (n := m - 1)).2 (Calls.mono hx fun e w'' he => ?_)
      cases e with
      | returned v => exact hK v w'' he
      | panicked c => exact he.elim
      | outgrown => exact he.elim
    case round l fn tmps assign body =>
      refine ⟨fun h => by simp [Fence.wide] at h, ?_⟩
      refine RoundIn.mono hx fun e w'' he => ?_
      cases e with
      | returned v => exact hK v w'' he
      | panicked c => exact he.elim
      | outgrown => exact he.elim
  | halt x w' => exact hx.elim
theorem XLY_wpIn {Q : Exit → List Nat → Fr → World → Prop} {all : List Oper} (hn : ∀ o ∈ all, ∀ d, o.dst = some d → d < n) (f0 : Fr) :
    ∀ (l : List Oper) (k : Nat) (a : Act) (f : Fr) (w : World), (∀ j, l[j]? = all[k + j]?) → RelG n ds a f → (∀ t, wrsOps all t = false → f t = f0 t) →
      XLY P m all (fun f w => Q .normal ds f w) l f w →
      wpOpsIn (fen none) m P all.toArray (fun e a' w' => ∃ ds' f', RelG n ds' a' f' ∧ (∀ t, wrsOps all t = false → f' t = f0 t) ∧ Q e ds' f' w') (List.range' k l.length) a w
  | [], _, a, f, w, _, hr, hk, h => ⟨ds, f, hr, hk, by unfold XLY at h; exact h⟩
  | o :: l, k, a, f, w, hl, hr, hk, h => by
    have h0 : all[k]? = some o := by simpa using (hl 0).symm
    have hmem : o ∈ all := List.mem_of_getElem? h0
    have ih := fun a f w => XLY_wpIn (Q := Q) hn f0 l (k + 1) a f w (fun j => by have := hl (j + 1); simpa [Nat.add_assoc, Nat.add_comm 1 j] using this)
    have next : ∀ v, (∀ t, wrsOps all t = false → putF f o.dst v t = f0 t) := fun v t ht => (putF_keep (wrsOps_mem hmem ht) v).trans (hk t ht)
    simp only [List.length_cons, List.range'_succ, wpOpsIn, List.getElem?_toArray, h0]
    rw [wanted_ofG hr hn o]
    unfold XLY at h
    cases hg : gdF all f o with
    | false =>
      rw [hg] at h
      exact ⟨fun _ _ => trivial, ih _ _ _ (hr.put (hn o hmem) _) (next _) h⟩
    | true =>
      rw [hg] at h
      exact XOY_wpIn hr (fun v w' hx => ih _ _ _ (hr.put (hn o hmem) v) (next v) hx) h
theorem G_regionY {Q : Exit → List Nat → Fr → World → Prop} {f : Fr} {w : World} {id : Nat} {l : List Oper} (hn : dstOk n l = true) (h : XLY P m l (fun f w => Q .normal ds f w) l f w) : WG none m P n (.region id l.toArray false) Q ds f w := by
  unfold WG
  intro a ha
  refine wpIn_region ?_
  have := XLY_wpIn (m := m) (dstOk_spec hn) f l 0 a f w (by simp) ha (fun _ _ => rfl) h
  simpa [List.range_eq_range', wrsG] using this
/-- A call of yield. -/
theorem xy {ops : List Oper} {rest : List Oper} {f : Fr} {w : World} {K : Fr → World → Prop} {d : Option Nat} {ty : Nat} {ps : String} {af : Array Edge} {gd : Option (Nat × Bool)} {x y : Operand} {at_ : Array Nat} {l : Nat} {R : Ending → World → Prop}
    (hx : ev f x = .func (.yield l) #[] #[]) (hy : YieldAt (fen none) (m - 1) P l #[ev f y] w R) (hK : ∀ e w', R e w' → ∃ v, e = .returned v ∧ XLY P m ops K rest (putF f d v) w')
    (hg : gdF ops f ⟨d, .call ⟨.value x, [y].toArray, at_⟩, ty, ps, af, gd⟩ = true := by rfl) :
    XLY P m ops K (⟨d, .call ⟨.value x, [y].toArray, at_⟩, ty, ps, af, gd⟩ :: rest) f w := by
  obtain ⟨fn, tmps, assign, body, h1, h2⟩ := hy
  have hr : (execOp (ev f) ⟨d, .call ⟨.value x, [y].toArray, at_⟩, ty, ps, af, gd⟩).run P w = .ok (.round l fn tmps assign body) w := by
    simp [execOp, resolve, hx, Deferred.ofValue, invoke, h1]
  unfold XLY
  rw [hg]
  simp only [XOY, hr, upY, cond_true]
  exact h2.mono fun e w' h => by obtain ⟨v, rfl, hk⟩ := hK e w' h; exact hk
end

attribute [irreducible] XLY
/-! ### What a round keeps -/
/-- Between two worlds: of what lay below B only blocks of L have turned. -/
structure Lw (B : Nat) (L : List Nat) (w w' : World) : Prop where
  os : w'.os = w.os
  tape : w'.tape = w.tape
  output : w'.output = w.output
  size : w.heap.size ≤ w'.heap.size
  low : ∀ k, k < B → k ∉ L → w'.heap[k]? = w.heap[k]?
theorem Lw.refl (B : Nat) (L : List Nat) (w : World) : Lw B L w w := ⟨rfl, rfl, rfl, Nat.le_refl _, fun _ _ _ => rfl⟩
theorem Lw.trans {B : Nat} {L : List Nat} {w0 w w' : World} (h : Lw B L w0 w) (k : Lw B L w w') : Lw B L w0 w' :=
  ⟨k.os.trans h.os, k.tape.trans h.tape, k.output.trans h.output, Nat.le_trans h.size k.size, fun i hi hn => (k.low i hi hn).trans (h.low i hi hn)⟩
theorem Step.lw {L : List Nat} {w w' w'' : World} (h : Step L w w') (k : Lw w.heap.size L w' w'') : Step L w w'' :=
  ⟨k.os.trans h.os, k.tape.trans h.tape, k.output.trans h.output, Nat.le_trans h.size k.size, fun i hi hn => (k.low i hi hn).trans (h.block i hi hn)⟩
/-- A round's steps: what is no cells stands too. -/
structure RSt (B : Nat) (L : List Nat) (W W' : World) : Prop where
  lw : Lw B L W W'
  other : ∀ (k : Nat) (o : Obj), W.heap[k]? = some o → o.isCells = false → W'.heap[k]? = some o
theorem RSt.refl (B : Nat) (L : List Nat) (w : World) : RSt B L w w := ⟨Lw.refl _ _ _, fun _ _ h _ => h⟩
theorem RSt.trans {B : Nat} {L : List Nat} {w0 w w' : World} (h : RSt B L w0 w) (k : RSt B L w w') : RSt B L w0 w' := ⟨h.lw.trans k.lw, fun i o hi ho => k.other i o (h.other i o hi ho) ho⟩
theorem RSt.step {B : Nat} {L X : List Nat} {W W' : World} (h : Step X W W') (hB : B ≤ W.heap.size) (hX : ∀ b ∈ X, (b ∈ L ∨ B ≤ b) ∧ ∃ o : Obj, W.heap[b]? = some o ∧ o.isCells = true) : RSt B L W W' := by
  refine ⟨⟨h.os, h.tape, h.output, h.size, fun k hk hn => h.block k (by omega) (fun hx => ?_)⟩, fun k o hk ho => ?_⟩
  · rcases (hX k hx).1 with h1 | h1
    · exact hn h1
    · omega
  · refine (h.block k (Array.getElem?_eq_some_iff.1 hk).1 (fun hx => ?_)).trans hk
    obtain ⟨o', h1, h2⟩ := (hX k hx).2
    rw [hk] at h1; cases h1; rw [ho] at h2; cases h2
theorem RSt.ext {B : Nat} {L : List Nat} {W W' : World} (h : Step [] W W') (hB : B ≤ W.heap.size) : RSt B L W W' := RSt.step h hB (fun _ hb => by cases hb)
theorem Blk.cells {H : Array Obj} {b T : Nat} {cs : List Value} (h : Blk H b T cs) : ∃ o : Obj, H[b]? = some o ∧ o.isCells = true := ⟨_, h, rfl⟩
theorem RSt.blk {B : Nat} {L : List Nat} {W W' : World} {b T : Nat} {cs : List Value} (h : Step [b] W W') (hB : B ≤ W.heap.size) (hb : Blk W.heap b T cs) (hL : b ∈ L ∨ B ≤ b) : RSt B L W W' :=
  RSt.step h hB (fun c hc => by have e : c = b := by simpa using hc
                                subst e; exact ⟨hL, hb.cells⟩)

/-- What stands when a block that is no cells, beyond B, turns. -/
def Stb (B : Nat) (I : World → Prop) : Prop := ∀ W W' X, I W → Step X W W' → (∀ r ∈ X, B ≤ r ∧ ∃ o : Obj, W.heap[r]? = some o ∧ o.isCells = false) → I W'
theorem Stb.own {β : Type} {B : Nat} {I : β → World → Prop} (h : ∀ s, Stb B (I s)) : OwnFrom B I := fun s W W' row hs hg hr =>
  h s W W' _ hs (Step.of_grown hg) (fun r hr' => hr r (by cases row <;> simp at hr' ⊢; exact hr'.symm))
theorem Stb.blk {B : Nat} {b T : Nat} {cs : List Value} : Stb B (fun W => Blk W.heap b T cs) := fun W W' X h hs hX => h.step hs (fun hb => by
  obtain ⟨_, o, h1, h2⟩ := hX b hb
  unfold Blk at h; rw [h] at h1; cases h1; cases h2)
theorem Stb.and {B : Nat} {I J : World → Prop} (h : Stb B I) (k : Stb B J) : Stb B (fun W => I W ∧ J W) := fun W W' X hi hs hX => ⟨h W W' X hi.1 hs hX, k W W' X hi.2 hs hX⟩
theorem Stb.ex {B : Nat} {β : Type} {I : β → World → Prop} (h : ∀ z, Stb B (I z)) : Stb B (fun W => ∃ z, I z W) := fun W W' X ⟨z, hi⟩ hs hX => ⟨z, h z W W' X hi hs hX⟩
theorem Stb.pure {B : Nat} (p : Prop) : Stb B (fun _ => p) := fun _ _ _ h _ _ => h
theorem Stb.step {B : Nat} {L : List Nat} {w : World} (hB : w.heap.size ≤ B) : Stb B (fun W => Step L w W) := fun W W' X h hs hX => h.then hs (fun b hb => .inr (by have := (hX b hb).1; omega))
theorem own_cells {w : World} {base e sz n : Nat} {v : Value} {cs : List Value} (h : w.ownsRow base e sz v n cs) : ∀ b ∈ ob v, ∃ o : Obj, w.heap[b]? = some o ∧ o.isCells = true := by
  intro b hb
  rcases h.2 with ⟨h1, _⟩ | ⟨g, cap, cur, h1, h2, h3, _⟩
  · subst h1; simp [ob] at hb
  · subst h1; simp [ob] at hb; subst hb; exact ⟨_, h3, rfl⟩
theorem Stb.row {B base e sz n : Nat} {v : Value} {cs : List Value} : Stb B (fun W => W.ownsRow base e sz v n cs) := fun W W' X h hs hX => own_step h hs (fun b hb hx => by
  obtain ⟨_, o, h1, h2⟩ := hX b hx
  obtain ⟨o', h3, h4⟩ := own_cells h b hb
  rw [h1] at h3; cases h3; rw [h2] at h4; cases h4)

/-! ### The loop -/
theorem G_range {α : Type} {m : Nat} {P : Program} {n : Nat} {Q : Exit → List Nat → Fr → World → Prop} {ds : List Nat} {f : Fr} {w : World} {g : Operand} {p : Nat} {assign body : Code} (L : List Nat) (h1 : 1 ≤ m)
    {gf : Nat} {fn : Func} [hF : Fu P gf fn] {capt : List Value} (hg : ev f g = .func (.func gf) #[] capt.toArray) {enc : α → Value} {S : List α → Prop} {N : Nat} (hp : p < n)
    (hseq : SeqStopsK (fen none) (m - 1) P gf capt.toArray (fun x => #[enc x]) (Lw w.heap.size L) S (fun _ => True) N w)
    (I : List α → World → Prop) (hI : ∀ s, Stb w.heap.size (I s)) (h0 : I [] w) (A : Fr → α → Fr → World → Prop) (hA : ∀ x f', Stb w.heap.size (A f x f'))
    (hassign : ∀ l pre x W, I pre W → WG (some l) (m - 1 - 1) P n assign (thnG (fun ds' f' W' => ds' = [] ∧ RSt w.heap.size L W W' ∧ I pre W' ∧ A f x f' W') (fun _ _ _ _ => False)) [] (upd f p (enc x)) W)
    (hbody : ∀ l pre x f' W, I pre W → A f x f' W → pre.length < N → WG (some l) (m - 1 - 1) P n body (thnG (fun _ _ W' => RSt w.heap.size L W W' ∧ I (pre ++ [x]) W') (fun _ _ _ _ => False)) [] f' W)
    (hdone : ∀ D xs W, w.heap.size ≤ D → S xs → I xs W → W.heap[D]? = some (.deferred (some [])) → Q .normal (D :: ds) f W) :
    WG none m P n (.rangeFunc g #[p] assign body) Q ds f w := by
  unfold WG at hassign hbody ⊢
  intro a ha
  have eg : ∀ args w, (callFunc gf args).run P w = .ok (.enter gf args) w := by
    intro args w
    have h1 : ¬ fn.name = "runtime.NumGoroutine" := by simpa using hF.nm
    have h2 : ¬ fn.body = none := by have := hF.b; intro e; rw [e] at this; cases this
    simp [callFunc, hF.f, h1, h2]
  have keep : ∀ {W W' : World}, RSt w.heap.size L W W' → KeepsFrom w.heap.size W W' := fun h => ⟨h.lw.size, fun k o _ hk ho => h.other k o hk ho⟩
  refine wpIn_rangeFunc_ownH (F := fen none) rfl h1 (gf := gf) (lb := capt.toArray) (by rw [ha.eval]; exact hg) trivial eg hseq (fun h k => h.trans k)
    (fun W l o o' hl ho _ _ => ⟨rfl, rfl, rfl, by simp, fun k hk _ => World.putObj_heap_other (by omega)⟩) (Below.refl _ _) (fun _ => rfl) I (fun _ _ _ => False) (Stb.own hI) (fun _ _ _ _ _ hs _ _ => hs) h0
    (fun x a' W => ∃ f', RelG n [] a' f' ∧ A f x f' W) (fun x a' => Stb.own fun _ => Stb.ex fun f' => Stb.and (Stb.pure _) (hA x f')) ?_ ?_ ?_ ?_
  · intro l pre x W K hi hK
    have hr : RelG n [] { tmps := ((#[p] : Array Nat).zip #[enc x]).foldl (fun t (p, v) => t.setIfInBounds p v) a.tmps, defers := [] } (upd f p (enc x)) := by
      have h2 : RelG n [] { a with defers := [] } f := ⟨ha.size, rfl, ha.get⟩
      have h3 := h2.put (dst := some p) (fun d e => by cases e; exact hp) (enc x)
      have e : ((#[p] : Array Nat).zip #[enc x]).foldl (fun t (p, v) => t.setIfInBounds p v) a.tmps = a.tmps.setIfInBounds p (enc x) := by simp
      rw [e]; exact h3
    refine wpIn_mono (hassign l pre x W hi _ hr) ?_
    rintro e a' W' ⟨ds', f', h2, _, h3⟩
    cases e with
    | normal => obtain ⟨rfl, h4, h5, h6⟩ := h3; exact hK a' W' (keep h4) h4.lw h5 ⟨f', h2, h6⟩
    | exit id => exact h3.elim
    | goto l => exact h3.elim
    | ret => exact h3.elim
    | panic ch => exact h3.elim
    | outgrown => exact h3.elim
  · rintro l pre x a' W _ _ hi ⟨f', h2, h3⟩ hlt
    refine wpIn_mono (hbody l pre x f' W hi h3 hlt a' h2) ?_
    rintro e a'' W' ⟨ds', f'', h4, _, h5⟩
    cases e with
    | normal => exact ⟨keep h5.1, h5.1.lw, h5.2⟩
    | exit id => exact h5.elim
    | goto l => exact h5.elim
    | ret => exact h5.elim
    | panic ch => exact h5.elim
    | outgrown => exact h5.elim
  · intro D xs W hD hS hi hd
    exact ⟨D :: ds, f, ⟨ha.size, by rw [show coll (D :: ds) = { target := .collected D, args := #[] } :: coll ds from rfl, ha.defers], ha.get⟩, fun _ _ => rfl, hdone D xs W hD hS hi hd⟩
  · intro D c pre W _ _ h _
    exact h.elim

/-! ### Struct literals with parts of several cells -/
def bwOf (P : Program) (t : Nat) : Option (List Value × List (Nat × Nat)) := match P.info? t, P.underlying t with
  | some it, some (.struct fs) => match it.zero, fs.toList.mapM (fun f => (P.info? f.type).map fun i => (f.offset, i.size)) with
    | some (.agg zs), some pl => some (zs.toList, pl)
    | _, _ => none
  | _, _ => none
class Bw (P : Program) (t : Nat) (zs : outParam (List Value)) (pl : outParam (List (Nat × Nat))) : Prop where
  h : bwOf P t = some (zs, pl)
  b : pl.all (fun x => x.1 + x.2 ≤ zs.length) = true
def setL : List Value → Nat → List Value → List Value
  | zs, _, [] => zs
  | zs, o, u :: us => setL (zs.set o u) (o + 1) us
def bldW (pl : List (Nat × Nat)) (zs : List Value) : List (Nat × List Value) → List Value
  | [] => zs
  | (j, us) :: ps => bldW pl (setL zs (pl.getD j (0, 0)).1 us) ps
def CelL : List (Nat × Value) → List (Nat × List Value) → Prop
  | [], [] => True
  | (j, v) :: vs, (j', us) :: uss => v.cells = us.toArray ∧ j = j' ∧ CelL vs uss
  | _, _ => False
theorem setL_len : ∀ (us zs : List Value) (o : Nat), (setL zs o us).length = zs.length
  | [], _, _ => rfl
  | u :: us, zs, o => by rw [setL, setL_len us, List.length_set]
theorem setL_fold (o : Nat) : ∀ (us : List Value) (k : Nat) (zs : List Value), (us.zipIdx k).foldl (fun (cs : Array Value) (x : Value × Nat) => cs.setIfInBounds (o + x.2) x.1) zs.toArray = (setL zs (o + k) us).toArray
  | [], _, _ => rfl
  | u :: us, k, zs => by
    rw [List.zipIdx_cons, List.foldl_cons, setL]
    have := setL_fold o us (k + 1) (zs.set (o + k) u)
    rw [← List.setIfInBounds_toArray] at this
    exact this
theorem fill_w {pl : List (Nat × Nat)} : ∀ (vs : List (Nat × Value)) (uss : List (Nat × List Value)) (zs : List Value), CelL vs uss → uss.all (fun p => p.1 < pl.length && (p.2.length == (pl.getD p.1 (0, 0)).2)) = true →
    (∀ x ∈ pl, x.1 + x.2 ≤ zs.length) → Instr.fill (pl.toArray[·]?) zs.toArray vs = some (bldW pl zs uss).toArray
  | [], [], zs, _, _, _ => rfl
  | [], _ :: _, _, h, _, _ => h.elim
  | _ :: _, [], _, h, _, _ => h.elim
  | (j, v) :: vs, (j', us) :: uss, zs, h1, h2, h3 => by
    obtain ⟨hc, rfl, h1⟩ := h1
    simp only [List.all_cons, Bool.and_eq_true, decide_eq_true_eq, beq_iff_eq] at h2
    obtain ⟨⟨hj, hl⟩, h2⟩ := h2
    have hg : pl.getD j (0, 0) = pl[j]'hj := by simp [List.getD, hj]
    have hm := h3 _ (List.getElem_mem hj)
    unfold Instr.fill
    simp only [List.getElem?_toArray, List.getElem?_eq_getElem hj, hc]
    rw [hg] at hl
    rw [if_neg (by simp only [List.size_toArray, hl, ne_eq, not_true, decide_false, Bool.false_or, decide_eq_true_eq]; omega)]
    have e := setL_fold (pl[j]'hj).1 us 0 zs
    rw [Nat.add_zero] at e
    have e2 : (us.toArray.zipIdx).foldl (fun (cs : Array Value) (x : Value × Nat) => cs.setIfInBounds ((pl[j]'hj).1 + x.2) x.1) zs.toArray = (setL zs (pl[j]'hj).1 us).toArray := by
      rw [← e]; simp
    rw [e2, bldW, hg]
    have e3 := fill_w vs uss (setL zs (pl[j]'hj).1 us) h1 h2 (fun x hx => by rw [setL_len]; exact h3 x hx)
    simpa only [List.getElem?_toArray] using e3
theorem bwOf_built {P : Program} {t : Nat} {zs : List Value} {pl : List (Nat × Nat)} (h : bwOf P t = some (zs, pl)) (hb : pl.all (fun x => x.1 + x.2 ≤ zs.length) = true) (vs : List (Nat × Value)) (uss : List (Nat × List Value)) (h1 : CelL vs uss)
    (h2 : uss.all (fun p => p.1 < pl.length && (p.2.length == (pl.getD p.1 (0, 0)).2)) = true) : P.built t vs = some (bldW pl zs uss).toArray := by
  have h3 : ∀ x ∈ pl, x.1 + x.2 ≤ zs.length := fun o ho => by simpa using List.all_eq_true.1 hb o ho
  unfold bwOf at h
  unfold Program.built
  cases hi : P.info? t with
  | none => simp [hi] at h
  | some it =>
    cases hu : P.underlying t with
    | none => simp [hi, hu] at h
    | some dd =>
      simp only [hi, hu] at h
      cases dd <;> simp only [] at h <;> try (cases h)
      case struct fs =>
        cases hz : it.zero with
        | none => simp [hz] at h
        | some z =>
          cases z <;> simp only [hz] at h <;> try (cases h)
          rename_i za
          cases hm : fs.toList.mapM (fun f => (P.info? f.type).map fun i => (f.offset, i.size)) with
          | none => simp [hm] at h
          | some pl' =>
            simp only [hm, Option.some.injEq, Prod.mk.injEq] at h
            obtain ⟨rfl, rfl⟩ := h
            simp only [hz, hm, Value.cells]
            exact fill_w vs uss za.toList h1 h2 h3
theorem r_buildW {P : Program} {f : Fr} {w : World} {d : Option Nat} {ty : Nat} {ps : String} {af : Array Edge} {gd : Option (Nat × Bool)} {t : Nat} {zs : List Value} {pl : List (Nat × Nat)} [h : Bw P t zs pl] {parts : List (Nat × Operand)} (uss : List (Nat × List Value))
    (h1 : CelL (parts.map fun x => (x.1, ev f x.2)) uss) (h2 : uss.all (fun p => p.1 < pl.length && (p.2.length == (pl.getD p.1 (0, 0)).2)) = true := by rfl) :
    (execOp (ev f) ⟨d, .build t parts.toArray, ty, ps, af, gd⟩).run P w = .ok (.value (.agg (bldW pl zs uss).toArray)) w := by
  have hb := bwOf_built h.h h.b _ uss h1 h2
  have hr := run_build (P := P) w t (parts.toArray.map fun (i, x) => (i, ev f x)) _ (by simpa using hb)
  simp only [execOp, Sem.run_bind, hr, Result.andThen_ok, Sem.run_pure]
end Go.Lg
/- reach.newGraph: where the edges of each state begin. -/
namespace Go.Proofs.YtfhgnlkdcdlblaaGreatDoor
open Go.Lg

def cnF (p : Ed → Bool) (es : List Ed) : Int := ((es.filter p).length : Int)
theorem cnF_snoc (p : Ed → Bool) (es : List Ed) (e : Ed) : cnF p (es ++ [e]) = cnF p es + if p e = true then 1 else 0 := by
  unfold cnF
  rw [List.filter_append, List.length_append]
  by_cases h : p e = true
  · simp [h]
  · simp [h]
theorem cnF_le (p : Ed → Bool) (es : List Ed) : 0 ≤ cnF p es ∧ cnF p es ≤ es.length := by
  unfold cnF
  have := List.length_filter_le p es
  omega
def gA (n : Nat) (f : Nat → Int) : List Int := (List.range n).map f
theorem gA_len (n : Nat) (f : Nat → Int) : (gA n f).length = n := by simp [gA]
theorem gA_get {n : Nat} {f : Nat → Int} {i : Nat} (h : i < (gA n f).length) : (gA n f)[i]'h = f i := by simp [gA]
theorem gA_set {n : Nat} {f g : Nat → Int} {i : Nat} {u : Int} (hu : u = g i) (h : ∀ j, j < n → j ≠ i → g j = f j) : (gA n f).set i u = gA n g := by
  apply List.ext_getElem
  · simp [gA]
  · intro k h1 h2
    rw [List.getElem_set, gA_get h2]
    by_cases e : i = k
    · rw [if_pos e, hu, e]
    · rw [if_neg e, gA_get]
      exact (h k (by simpa [gA] using h2) (Ne.symm e)).symm
theorem gA_congr {n : Nat} {f g : Nat → Int} (h : ∀ j, j < n → f j = g j) : gA n f = gA n g := List.map_congr_left (fun j hj => h j (List.mem_range.1 hj))
/-- Edges that begin in state s - 1. -/
def cN (es : List Ed) (s : Nat) : Int := cnF (fun e => decide (e.1 + 1 = (s : Int))) es
/-- Edges that begin ahead of state s. -/
def fS (es : List Ed) (s : Nat) : Int := cnF (fun e => decide (e.1 < (s : Int))) es
theorem fS_succ (es : List Ed) (s : Nat) : fS es (s + 1) = cN es (s + 1) + fS es s := by
  unfold fS cN cnF
  induction es with
  | nil => rfl
  | cons e es ih =>
    simp only [List.filter_cons]
    by_cases h1 : e.1 < (s : Int)
    · have h2 : e.1 < ((s + 1 : Nat) : Int) := by omega
      have h3 : ¬ e.1 + 1 = ((s + 1 : Nat) : Int) := by omega
      simp only [h1, h2, h3, decide_true, decide_false, if_true, List.length_cons] at ih ⊢
      simp only [Bool.false_eq_true, if_false] at ih ⊢
      omega
    · by_cases h2 : e.1 + 1 = ((s + 1 : Nat) : Int)
      · have h3 : e.1 < ((s + 1 : Nat) : Int) := by omega
        simp only [h1, h2, h3, decide_true, decide_false, if_true, List.length_cons] at ih ⊢
        simp only [Bool.false_eq_true, if_false] at ih ⊢
        omega
      · have h3 : ¬ e.1 < ((s + 1 : Nat) : Int) := by omega
        simp only [h1, h2, h3, decide_false, Bool.false_eq_true, if_false] at ih ⊢
        exact ih
theorem fS_zero {es : List Ed} (h : ∀ e ∈ es, 0 ≤ e.1) : fS es 0 = 0 ∧ cN es 0 = 0 := by
  unfold fS cN cnF
  refine ⟨?_, ?_⟩
  · have : (es.filter fun e => decide (e.1 < ((0 : Nat) : Int))) = [] := List.filter_eq_nil_iff.2 (fun e he => by have := h e he; simp; omega)
    rw [this]; rfl
  · have : (es.filter fun e => decide (e.1 + 1 = ((0 : Nat) : Int))) = [] := List.filter_eq_nil_iff.2 (fun e he => by have := h e he; simp; omega)
    rw [this]; rfl
def mX (es : List Ed) (s j : Nat) : Int := if j ≤ s then fS es j else cN es j
theorem mX_zero {es : List Ed} (h : ∀ e ∈ es, 0 ≤ e.1) (n : Nat) : gA n (cN es) = gA n (mX es 0) := gA_congr fun j _ => by
  unfold mX
  by_cases e : j ≤ 0
  · have : j = 0 := by omega
    subst this
    rw [if_pos (Nat.le_refl _), (fS_zero h).1, (fS_zero h).2]
  · rw [if_neg e]
theorem mX_next (es : List Ed) (s n : Nat) : (gA n (mX es s)).set (s + 1) (mX es s (s + 1) + mX es s s) = gA n (mX es (s + 1)) := by
  refine gA_set ?_ fun j _ hj => ?_
  · unfold mX
    rw [if_neg (by omega), if_pos (Nat.le_refl _), if_pos (Nat.le_refl _), fS_succ]
  · unfold mX
    by_cases e : j ≤ s
    · rw [if_pos (by omega), if_pos e]
    · rw [if_neg (by omega), if_neg e]
theorem cN_next (es : List Ed) (e : Ed) (h0 : 0 ≤ e.1) (n : Nat) : (gA n (cN es)).set (e.1.toNat + 1) (cN es (e.1.toNat + 1) + 1) = gA n (cN (es ++ [e])) := by
  refine gA_set ?_ fun j _ hj => ?_
  · unfold cN
    rw [cnF_snoc, if_pos (by simp; omega)]
  · unfold cN
    rw [cnF_snoc, if_neg (by simp; omega)]; simp

theorem make_zero (n : Nat) : (List.replicate n (Value.int .i64 0).cells.toList).flatten = (gA n (cN [])).map (Value.int .i64) := by
  apply List.ext_getElem
  · simp [Value.cells, gA]
  · intro i h1 h2
    simp [Value.cells, gA, cN, cnF]
section
variable {P : Program} {K : Fr → World → Prop} {f : Fr} {w : World} {d : Option Nat} {ty : Nat} {ps : String} {af : Array Edge} {gd : Option (Nat × Bool)}
theorem r_loadG {t : Nat} [One P t] {x : Operand} {b T i n : Nat} {g : Nat → Int} (h : Blk w.heap b T ((gA n g).map (.int .i64))) (hx : ev f x = .pointer (some ⟨b, 0 + i * 1, none⟩)) (hi : i < n) :
    (execOp (ev f) ⟨d, .load t x, ty, ps, af, gd⟩).run P w = .ok (.value (.int .i64 (g i))) w := r_loadB h hx (by simp [gA, hi])
theorem o_storeG {t : Nat} [h1 : One P t] {x y : Operand} {b T i n : Nat} {g g' : Nat → Int} {u : Int} (hB : Blk w.heap b T ((gA n g).map (.int .i64))) (hx : ev f x = .pointer (some ⟨b, 0 + i * 1, none⟩)) (hy : ev f y = .int .i64 u) (hi : i < n) (hg : (gA n g).set i u = gA n g')
    (hK : ∀ w', Step [b] w w' → Blk w'.heap b T ((gA n g').map (.int .i64)) → K (putF f d undef) w') : XO P ⟨d, .store t x y, ty, ps, af, gd⟩ f w K :=
  o_storeI hB hx hy (by rw [gA_len]; exact hi) fun w' hs hB' => hK w' hs (by rw [← hg]; exact hB')
end
instance : Bw Tryz.prog 89 [.slice none 0 0, .int .i64 0, .slice none 0 0, .slice none 0 0, .slice none 0 0] [(0, 4), (4, 1)] := ⟨by kernel_rfl, by decide⟩
theorem newGraph_ok {w : World} {va vm ve : Value} {a : Aut} {n : Nat} (h : AutA [] w.heap va vm ve a) (hn : a.st = (n : Int)) (hst1 : a.st ≤ 4096) (hed : ∀ e ∈ a.ed, 0 ≤ e.1 ∧ e.1 < a.st) :
    Ret Tryz.prog 37 [.agg #[va, .int .i64 a.st, vm, ve]] w fun r w' => Step [] w w' ∧ ∃ b, r = .agg #[va, .int .i64 a.st, vm, ve, .slice (some ⟨b, 0, none⟩) (n + 1) (n + 1)] ∧ w.heap.size ≤ b ∧ Blk w'.heap b 3 ((gA (n + 1) (fS a.ed)).map (Value.int .i64)) := by
  have hel := h.ed.le
  refine Ret.of_W Tryz.func37 rfl Tryz.ntmps37 Tryz.results37 (by simp) ?_
  refine W_seq <| W_region (by rfl) ?_
  refine xl rfl <| o_box (us := [va, .int .i64 a.st, vm, ve]) rfl fun b1 w1 hs1 hb1 hB1 => xl rfl <| o_alloc (us := [.slice none 0 0, .int .i64 0, .slice none 0 0, .slice none 0 0, .slice none 0 0]) rfl fun b2 w2 hs2 hb2 hB2 => xe ?_
  have hs12 := hs1.trans hs2
  have hB12 := hB1.ext hs2
  have h2 := h.ext hs12
  have hn1 : a.st + 1 = ((n + 1 : Nat) : Int) := by omega
  have hc0 : Step [] w2 { w2 with drawn := w2.drawn + 1 } := Step.drew [] w2
  have hz0 := hc0.size
  refine W_cut (α := Nat × Nat) [(3, 3), (7, 12)] (fun z => [(3, .pointer (some ⟨z.1, 0, none⟩))]) (fun z w' => Step [] w2 w' ∧ Blk w'.heap z.1 89 [va, .int .i64 a.st, vm, ve, .slice (some ⟨z.2, 0, none⟩) (n + 1) (n + 1)] ∧ Blk w'.heap z.2 3 ((gA (n + 1) (cN [])).map (Value.int .i64)) ∧ w2.heap.size ≤ z.1 ∧ w2.heap.size ≤ z.2 ∧ z.1 ≠ z.2) (by rfl) ?_ ?_
  · refine W_drawU (Step [] w2) (.f2 [(0, true), (1, true), (2, true), (3, true)] 4 6 (.pl [(5, true), (6, false), (7, false)]) (.pl [(4, false), (5, true), (7, false)])) Tryz.mixed (by rfl) (by kernel_rfl) (Step.drew _ _) ?_
    refine u2 <| pq (fun _ hc => r_loadsB (hB12.ext hc) rfl rfl) <| p (fun _ => r_fieldB rfl) <| pq (fun _ hc => r_loadB (hB12.ext hc) rfl rfl) <| p (fun _ => r_add rfl rfl ⟨by omega, by omega⟩) <| pe ⟨?_, ?_⟩
    · refine ue <| o_make (n := n + 1) (congrArg (Value.int .i64) hn1) (congrArg (Value.int .i64) hn1) (by omega) fun b11 w3 hs3 hb11 hB11 => ?_
      have hc3 := hc0.trans hs3
      have hl11 := hB11.lt
      refine ⟨hc3, ?_⟩
      refine uP <| p (fun _ => r_buildW [(0, [va, .int .i64 a.st, vm, ve]), (1, [.slice (some ⟨b11, 0, none⟩) (n + 1) (n + 1)])] ⟨rfl, rfl, rfl, rfl, trivial⟩) <| pk <| o_alloc (us := [.slice none 0 0, .int .i64 0, .slice none 0 0, .slice none 0 0, .slice none 0 0]) rfl fun b3 w4 hs4 hb3 hB3 => ?_
      have hc4 := hc3.trans hs4
      refine ⟨hc4, ?_⟩
      refine pk <| o_stores (us := [va, .int .i64 a.st, vm, ve, .slice (some ⟨b11, 0, none⟩) (n + 1) (n + 1)]) hB3 rfl rfl rfl rfl ⟨h.al.one, rfl, h.mr.one, h.ed.one, rfl, trivial⟩ fun w5 hs5 hB5 => ⟨hc4.then1 hs5 (by omega), pe ?_⟩
      have hB11' : Blk w3.heap b11 3 ((gA (n + 1) (cN [])).map (Value.int .i64)) := by rw [← make_zero]; exact hB11
      exact ⟨(b3, b11), ⟨rfl, trivial⟩, hc4.then1 hs5 (by omega), hB5, (hB11'.ext hs4).step hs5 (by simp; omega), by simp only []; omega, by simp only []; omega, by simp only []; omega⟩
    · refine ue <| o_alloc (us := [.slice none 0 0, .int .i64 0, .slice none 0 0, .slice none 0 0, .slice none 0 0]) rfl fun b3 w3 hs3 hb3 hB3 => ?_
      have hc3 := hc0.trans hs3
      have hl3 := hB3.lt
      refine ⟨hc3, ?_⟩
      refine uP <| pk <| o_make (n := n + 1) (congrArg (Value.int .i64) hn1) (congrArg (Value.int .i64) hn1) (by omega) fun b11 w4 hs4 hb11 hB11 => ?_
      have hc4 := hc3.trans hs4
      refine ⟨hc4, ?_⟩
      refine p (fun _ => r_buildW [(0, [va, .int .i64 a.st, vm, ve]), (1, [.slice (some ⟨b11, 0, none⟩) (n + 1) (n + 1)])] ⟨rfl, rfl, rfl, rfl, trivial⟩) <| pk <| o_stores (us := [va, .int .i64 a.st, vm, ve, .slice (some ⟨b11, 0, none⟩) (n + 1) (n + 1)]) (hB3.ext hs4) rfl rfl rfl rfl ⟨h.al.one, rfl, h.mr.one, h.ed.one, rfl, trivial⟩ fun w5 hs5 hB5 => ⟨hc4.then1 hs5 (by omega), pe ?_⟩
      have hB11' : Blk w4.heap b11 3 ((gA (n + 1) (cN [])).map (Value.int .i64)) := by rw [← make_zero]; exact hB11
      exact ⟨(b3, b11), ⟨rfl, trivial⟩, hc4.then1 hs5 (by omega), hB5, hB11'.step hs5 (by simp; omega), by simp only []; omega, by simp only []; omega, by simp only []; omega⟩
  rintro ⟨b3, bF⟩ g6 w6 ⟨hs6, hB3, hBF, hb3, hbF, hne⟩
  simp only [] at hB3 hBF hb3 hbF hne
  have hel' : a.ed.length ≤ 1099511627776 := hel
  have hB1' := hB12.ext hs6
  have hB2' := hB2.ext hs6
  have hl1 := hB12.lt
  have hl2 := hB2.lt
  refine W_seq <| W_seq <| W_region (by rfl) ?_
  refine x (r_fieldB rfl) <| x (r_loadB hB1' rfl rfl) <| x (r_lenA h.ed rfl) <| x r_move <| xe ?_
  have hed0 : ∀ e ∈ a.ed, 0 ≤ e.1 := fun e he => (hed e he).1
  refine W_block <| W_loop (α := Nat) [(5, 5), (16, 29)] (fun z => [(16, .int .i64 z)]) (fun z w' => z ≤ a.ed.length ∧ Step [] w2 w' ∧ Blk w'.heap b3 89 [va, .int .i64 a.st, vm, ve, .slice (some ⟨bF, 0, none⟩) (n + 1) (n + 1)] ∧ Blk w'.heap bF 3 ((gA (n + 1) (cN (a.ed.take z))).map (Value.int .i64))) (fun z => a.ed.length - z) (by rfl) 0 ⟨rfl, trivial⟩
    ⟨Nat.zero_le _, hs6, hB3, hBF⟩ ?_
  rintro k g w7 ⟨hk, hs7, hB37, hBF7⟩
  refine W_seq <| W_region (by rfl) ?_
  refine x (r_lss rfl rfl) <| xe ?_
  refine W_seq <| W_ifn rfl (fun h17 => ?_) (fun h17 => ?_)
  · refine W_exit ?_
    have hke : a.ed.length ≤ k := by have h18 : ¬ (k : Int) < (a.ed.length : Int) := h17; omega
    rw [List.take_of_length_le hke, mX_zero hed0 (n + 1)] at hBF7
    refine W_seq <| W_seq <| W_region (by rfl) ?_
    refine x (r_fieldB rfl) <| x (r_loadB (hB12.ext hs7) rfl rfl) <| x r_move <| xe ?_
    refine W_block <| W_loop (α := Nat) [(6, 6), (32, 48)] (fun z => [(32, .int .i64 z)]) (fun z w' => z ≤ n ∧ Step [] w2 w' ∧ Blk w'.heap b3 89 [va, .int .i64 a.st, vm, ve, .slice (some ⟨bF, 0, none⟩) (n + 1) (n + 1)] ∧ Blk w'.heap bF 3 ((gA (n + 1) (mX a.ed z)).map (Value.int .i64))) (fun z => n - z) (by rfl) 0 ⟨rfl, trivial⟩
      ⟨Nat.zero_le _, hs7, hB37, hBF7⟩ ?_
    rintro j g w8 ⟨hj, hs8, hB38, hBF8⟩
    refine W_seq <| W_region (by rfl) ?_
    refine x (r_lss rfl rfl) <| xe ?_
    refine W_seq <| W_ifn rfl (fun h33 => ?_) (fun h33 => ?_)
    · refine W_exit ?_
      have hje : n ≤ j := by have h34 : ¬ (j : Int) < a.st := h33; omega
      have hjn : j = n := by omega
      rw [hjn] at hBF8
      have hmx : gA (n + 1) (mX a.ed n) = gA (n + 1) (fS a.ed) := gA_congr fun i hi => by unfold mX; rw [if_pos (by omega)]
      rw [hmx] at hBF8
      refine W_seq <| W_region (by rfl) ?_
      refine x (r_loadsB hB38 rfl rfl) <| xl rfl <| o_stores (us := [va, .int .i64 a.st, vm, ve, .slice (some ⟨bF, 0, none⟩) (n + 1) (n + 1)]) (hB2.ext hs8) rfl rfl rfl rfl ⟨h.al.one, rfl, h.mr.one, h.ed.one, rfl, trivial⟩ fun w9 hs9 hB9 => xe ?_
      have hz1 := hs1.size
      have hz12 := hs12.size
      refine W_ret ⟨[_], ⟨⟨_, rfl, run_loadVar_ag rfl (hB9.at (L := []) (by simp)).cells⟩, trivial⟩, ((hs1.trans hs2).trans hs8).then1 hs9 (by omega), bF, rfl, by omega, hBF8.step hs9 (by simp; omega)⟩
    have hjn : j < n := by have h34 : (j : Int) < a.st := h33; omega
    have hmj := cnF_le (fun e : Ed => decide (e.1 < (j : Int))) a.ed
    have hmj' := cnF_le (fun e : Ed => decide (e.1 + 1 = ((j + 1 : Nat) : Int))) a.ed
    have hv1 : mX a.ed j (j + 1) = cN a.ed (j + 1) := by unfold mX; rw [if_neg (by omega)]
    have hv0 : mX a.ed j j = fS a.ed j := by unfold mX; rw [if_pos (Nat.le_refl _)]
    have hb1 : 0 ≤ mX a.ed j (j + 1) ∧ mX a.ed j (j + 1) ≤ 1099511627776 := by rw [hv1]; unfold cN; omega
    have hb0 : 0 ≤ mX a.ed j j ∧ mX a.ed j j ≤ 1099511627776 := by rw [hv0]; unfold fS; omega
    refine W_skip ?_
    refine W_seq <| W_block <| W_seq <| W_region (by rfl) ?_
    refine x r_move <| x r_assign <| xe ?_
    refine W_draw (Step [] w8) [(0, true), (1, true), (2, true), (3, true), (4, true), (5, true), (6, true), (7, true), (8, true), (9, true), (10, true), (11, true), (12, true), (13, false)] Tryz.mixed (by rfl) (by kernel_rfl) (Step.drew _ _) ?_
    refine p (fun _ => r_fieldB rfl) <| pq (fun _ hc => r_loadB (hB38.ext hc) rfl rfl) <| p (fun _ => r_move) <| p (fun _ => r_add rfl rfl ⟨by omega, by omega⟩) <|
      p (fun _ => r_indexB (i := j + 1) rfl rfl (by omega)) <| pq (fun _ hc => r_loadG (i := j + 1) (hBF8.ext hc) rfl (by omega)) <| p (fun _ => r_fieldB rfl) <| pq (fun _ hc => r_loadB (hB38.ext hc) rfl rfl) <|
      p (fun _ => r_move) <| p (fun _ => r_indexB (i := j) rfl rfl (by omega)) <| pq (fun _ hc => r_loadG (i := j) (hBF8.ext hc) rfl (by omega)) <| p (fun _ => r_add rfl rfl ⟨by omega, by omega⟩) <|
      p (fun _ => r_indexB (i := j + 1) rfl rfl (by omega)) <| pkl (hl := by kernel_rfl) <| o_storeG (i := j + 1) (hBF8.ext (Step.drew [] w8)) rfl rfl (by omega) (mX_next a.ed j (n + 1)) fun w9 hs9 hBF9 => pe ?_
    refine W_region (by rfl) ?_
    refine x (r_add rfl rfl ⟨by omega, by omega⟩) <| x r_move <| xe ?_
    exact ⟨j + 1, by omega, ⟨rfl, trivial⟩, hjn, (hs8.trans (Step.drew [] w8)).then1 hs9 hbF, (hB38.ext (Step.drew [] w8)).step hs9 (by simp; omega), hBF9⟩
  have hlt : k < a.ed.length := by have h18 : (k : Int) < (a.ed.length : Int) := h17; omega
  have htk : a.ed.take (k + 1) = a.ed.take k ++ [a.ed[k]'hlt] := List.take_succ_eq_append_getElem hlt
  have hek := hed _ (List.getElem_mem hlt)
  refine exE (a.ed[k]'hlt) fun e he => ?_
  rw [he] at htk hek
  have hfr : e.1 + 1 = ((e.1.toNat + 1 : Nat) : Int) := by omega
  have hst := cN_next (a.ed.take k) e hek.1 (n + 1)
  have hcl := cnF_le (fun d : Ed => decide (d.1 + 1 = ((e.1.toNat + 1 : Nat) : Int))) (a.ed.take k)
  have hcl' : 0 ≤ cN (a.ed.take k) (e.1.toNat + 1) ∧ cN (a.ed.take k) (e.1.toNat + 1) ≤ 1099511627776 := by unfold cN; rw [List.length_take] at hcl; omega
  refine W_skip ?_
  refine W_seq <| W_block <| W_seq <| W_region (by rfl) ?_
  refine xie (h2.ed.ext hs7) rfl rfl hlt fun a18 h18 => ?_
  rw [he] at h18
  refine x (r_loadsA h18 rfl rfl) <| xl rfl <| o_alloc (us := [.int .i64 0, .int .i64 0, .int .i64 0]) rfl fun b5 w8 hs8 hb5 hB5 => xl rfl <| o_stores (us := edCells e) hB5 rfl rfl rfl rfl ⟨rfl, rfl, rfl, trivial⟩ fun w9 hs9 hB5' => xe ?_
  have hs79 : Step [] w7 w9 := hs8.then1 hs9 hb5
  refine W_region (by rfl) ?_
  refine x (r_fieldB rfl) <| x (r_loadB (hB37.ext hs79) rfl rfl) <| x (r_fieldB rfl) <| x (r_loadB hB5' rfl rfl) <| x (r_add rfl rfl ⟨by omega, by omega⟩) <| x (r_indexB (i := e.1.toNat + 1) rfl (congrArg (Value.int .i64) hfr) (by omega)) <|
    x (r_loadG (i := e.1.toNat + 1) (hBF7.ext hs79) rfl (by omega)) <| x (r_add rfl rfl ⟨by omega, by omega⟩) <| x (r_indexB (i := e.1.toNat + 1) rfl (congrArg (Value.int .i64) hfr) (by omega)) <|
    xl rfl <| o_storeG (i := e.1.toNat + 1) (hBF7.ext hs79) rfl rfl (by omega) hst fun w10 hs10 hBF10 => xe ?_
  refine W_region (by rfl) ?_
  refine x (r_add rfl rfl ⟨by omega, by omega⟩) <| x r_move <| xe ?_
  refine ⟨k + 1, by omega, ⟨rfl, trivial⟩, hlt, (hs7.trans hs79).then1 hs10 hbF, (hB37.ext hs79).step hs10 (by simp; omega), ?_⟩
  rw [htk]; exact hBF10
end Go.Proofs.YtfhgnlkdcdlblaaGreatDoor
