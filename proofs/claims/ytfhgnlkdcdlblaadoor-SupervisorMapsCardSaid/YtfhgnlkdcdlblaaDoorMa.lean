/- Merged out of the texts Da Sz Db Dc Dd De Df. -/
import Derived.Test.YtfhgnlkdcdlblaaDoorCx
import Derived.Test.YtfhgnlkdcdlblaaDoorLv
import Derived.Test.YtfhgnlkdcdlblaaDoorSv
import Derived.Test.YtfhgnlkdcdlblaaDoorSy
import Derived.Test.YtfhgnlkdcdlblaaDoorCu
/- Contracts: overseerref03's has, Step, index, Empty. -/
namespace Go.Proofs.YtfhgnlkdcdlblaaDoor
open Go.Lg

/-- has (ref 3) -/
theorem hasR_ok {L : List Nat} {w : World} {v : Value} {l : List Int} (h : Ints L w.heap v l) (x : Int) :
    Ret Tryd.prog 94 [v, .int .i64 x] w fun r w' => r = .bool (decide (x ∈ l)) ∧ w' = w := by
  have hle := h.le
  refine Ret.of_W Tryd.func94 rfl Tryd.ntmps94 Tryd.results94 (by simp) ?_
  refine W_seq <| W_region (by rfl) ?_
  refine Lg.x r_assign <| xe ?_
  refine W_seq <| W_seq <| W_region (by rfl) ?_
  refine Lg.x r_assign <| xe ?_
  refine W_block <| W_loop (α := Nat) [(4, 17)] (fun k => [(5, .int .i64 k)]) (fun k w' => w' = w ∧ k ≤ l.length ∧ (x ∈ l ↔ x ∈ l.drop k)) (fun k => l.length - k) (by rfl) 0 ⟨rfl, trivial⟩ ⟨rfl, Nat.zero_le _, by simp⟩ ?_
  rintro k g w' ⟨rfl, hk, hm⟩
  refine W_seq <| W_seq <| W_region (by rfl) ?_
  refine Lg.x r_move <| Lg.x r_move <| Lg.x (r_lenA h rfl) <| Lg.x (r_lss rfl rfl) <| xe ?_
  refine W_ifn rfl (fun h9 => ?_) (fun h9 => ?_)
  · refine W_exit ?_
    refine W_seq <| W_region (by rfl) ?_
    refine Lg.x r_assign <| xe ?_
    refine W_ret ⟨[.bool false], ⟨rfl, trivial⟩, ?_, rfl⟩
    rw [List.drop_of_length_le (by omega)] at hm
    simp [tup, hm]
  have hlt : k < l.length := by omega
  have hd := drop_cons hlt
  refine W_skip ?_
  refine W_seq <| W_block <| W_seq <| W_region (by rfl) ?_
  refine Lg.x r_move <| Lg.x r_move <| xii h rfl rfl hlt fun a14 h14 => Lg.x (r_loadA h14 rfl) <| Lg.x r_move <| Lg.x (r_eql rfl rfl) <| xe ?_
  refine W_if rfl (fun h17 => ?_) (fun h17 => ?_)
  · refine W_seq <| W_region (by rfl) ?_
    refine Lg.x r_assign <| xe ?_
    refine W_ret ⟨[.bool true], ⟨rfl, trivial⟩, ?_, rfl⟩
    have : x ∈ l := by rw [hm, hd, h17]; exact List.mem_cons_self
    simp [tup, this]
  refine W_skip ?_
  refine W_region (by rfl) ?_
  refine Lg.x r_move <| Lg.x (r_add rfl rfl ⟨by omega, by omega⟩) <| Lg.x r_assign <| xe ?_
  refine ⟨k + 1, by omega, ⟨rfl, trivial⟩, rfl, by omega, ?_⟩
  rw [hm, hd, List.mem_cons]
  exact ⟨fun h => h.resolve_left (fun e => h17 e.symm), .inr⟩

theorem stepR_ok {L : List Nat} {w : World} {va vm ve : Value} {a : Aut} (h : Eds L w.heap ve a.ed) (s e : Int) (st : Int) :
    Ret Tryd.prog 95 [.agg #[va, .int .i64 st, vm, ve], .int .i64 s, .int .i64 e] w fun r w' => r = .int .i64 (nxt a.ed s e) ∧ Step [] w w' := by
  have hle := h.le
  refine Ret.of_W Tryd.func95 rfl Tryd.ntmps95 Tryd.results95 (by simp) ?_
  refine W_seq <| W_region (by rfl) ?_
  refine xl rfl <| o_box (us := [va, .int .i64 st, vm, ve]) rfl fun b3 w1 hs1 hb3 hB3 => Lg.x r_assign <| xe ?_
  replace h := h.ext hs1
  refine W_seq <| W_seq <| W_region (by rfl) ?_
  refine Lg.x r_assign <| xe ?_
  refine W_block <| W_loop (α := Nat) [(6, 38)] (fun k => [(7, .int .i64 k)]) (fun k w' => w' = w1 ∧ k ≤ a.ed.length ∧ nxt (a.ed.drop k) s e = nxt a.ed s e) (fun k => a.ed.length - k) (by rfl) 0 ⟨rfl, trivial⟩ ⟨rfl, Nat.zero_le _, rfl⟩ ?_
  rintro k g w2 ⟨rfl, hk, hn⟩
  refine W_seq <| W_seq <| W_region (by rfl) ?_
  refine Lg.x r_move <| Lg.x (r_fieldB rfl) <| Lg.x (r_loadB hB3 rfl rfl) <| Lg.x (r_lenA h rfl) <| Lg.x (r_lss rfl rfl) <| xe ?_
  refine W_ifn rfl (fun h12 => ?_) (fun h12 => ?_)
  · refine W_exit ?_
    refine W_seq <| W_region (by rfl) ?_
    refine Lg.x r_assign <| xe ?_
    refine W_ret ⟨[.int .i64 (-1)], ⟨rfl, trivial⟩, ?_, hs1⟩
    rw [List.drop_of_length_le (by omega)] at hn
    rw [← hn]; rfl
  have hlt : k < a.ed.length := by omega
  have hd := drop_cons hlt
  refine W_skip ?_
  refine W_seq <| W_block <| W_cut (α := Bool) [(15, 32)] (fun z => [(32, .bool z)]) (fun z w' => w' = w2 ∧ z = decide (a.ed[k].1 = s ∧ a.ed[k].2.1 = e)) (by rfl) ?_ ?_
  · refine W_region (by rfl) ?_
    refine Lg.x (r_fieldB rfl) <| Lg.x (r_loadB hB3 rfl rfl) <| Lg.x r_move <| xie h rfl rfl hlt fun a18 h18 => Lg.x (r_field rfl) <| Lg.x (r_loadA (h18.fld 0 _ rfl) rfl) <|
      Lg.x r_move <| xb (r_eql rfl rfl) (fun h22 => ?_) (fun h22 => ?_)
    · refine Lg.x r_move <| Lg.x (r_fieldB rfl) <| Lg.x (r_loadB hB3 rfl rfl) <| Lg.x r_move <| xie h rfl rfl hlt fun a27 h27 => Lg.x (r_field rfl) <| Lg.x (r_loadA (h27.fld 1 _ rfl) rfl) <|
        Lg.x r_move <| Lg.x (r_eql rfl rfl) <| Lg.x (r_pick rfl) <| xe ?_
      exact ⟨_, ⟨rfl, trivial⟩, rfl, by simp [h22]⟩
    refine Lg.x r_move <| xs rfl <| xs rfl <| xs rfl <| xs rfl <| xs rfl <| xs rfl <| xs rfl <| xs rfl <| Lg.x (r_pick rfl) <| xe ?_
    exact ⟨_, ⟨rfl, trivial⟩, rfl, by simp [h22]⟩
  rintro z g w3 ⟨rfl, rfl⟩
  refine W_if rfl (fun h32 => ?_) (fun h32 => ?_)
  · refine W_seq <| W_region (by rfl) ?_
    refine Lg.x (r_fieldB rfl) <| Lg.x (r_loadB hB3 rfl rfl) <| Lg.x r_move <| xie h rfl rfl hlt fun a36 h36 => Lg.x (r_field rfl) <| Lg.x (r_loadA (h36.fld 2 _ rfl) rfl) <|
      Lg.x r_assign <| xe ?_
    refine W_ret ⟨[.int .i64 a.ed[k].2.2], ⟨rfl, trivial⟩, ?_, hs1⟩
    rw [← hn, hd, nxt, if_pos h32]; rfl
  refine W_skip ?_
  refine W_region (by rfl) ?_
  refine Lg.x r_move <| Lg.x (r_add rfl rfl ⟨by omega, by omega⟩) <| Lg.x r_assign <| xe ?_
  refine ⟨k + 1, by omega, ⟨rfl, trivial⟩, rfl, by omega, ?_⟩
  rw [← hn, hd, nxt, if_neg h32]

/-- index (ref 3): -1 if it is not there -/
def ixR (l : List Int) (n : Int) : Int := if n ∈ l then (l.idxOf n : Int) else -1
theorem ixR_drop {l : List Int} {n : Int} {k : Nat} (h : n ∉ l.take k) (hk : k < l.length) (he : cget l k = n) : ixR l n = k := by
  have hm : n ∈ l := by rw [← he, ← cget_eq hk]; exact List.getElem_mem hk
  unfold ixR
  rw [if_pos hm]
  have hs : l = l.take k ++ l.drop k := (List.take_append_drop k l).symm
  have : l.idxOf n = k := by
    rw [hs, List.idxOf_append, if_neg h, List.drop_eq_getElem_cons hk, List.idxOf_cons, show l[k] = n by rw [cget_eq hk]; exact he]
    simp; omega
  rw [this]
theorem indexR_ok {L : List Nat} {w : World} {v : Value} {l : List Int} (h : Ints L w.heap v l) (n : Int) :
    Ret Tryd.prog 96 [v, .int .i64 n] w fun r w' => r = .int .i64 (ixR l n) ∧ w' = w := by
  have hle := h.le
  refine Ret.of_W Tryd.func96 rfl Tryd.ntmps96 Tryd.results96 (by simp) ?_
  refine W_seq <| W_region (by rfl) ?_
  refine x r_assign <| xe ?_
  refine W_seq <| W_seq <| W_region (by rfl) ?_
  refine x r_assign <| xe ?_
  refine W_block <| W_loop (α := Nat) [(4, 18)] (fun z => [(5, .int .i64 z)]) (fun z w' => w' = w ∧ z ≤ l.length ∧ n ∉ l.take z) (fun z => l.length - z) (by rfl) 0 ⟨rfl, trivial⟩ ⟨rfl, Nat.zero_le _, by simp⟩ ?_
  rintro k g w1 ⟨rfl, hk, hm⟩
  refine W_seq <| W_seq <| W_region (by rfl) ?_
  refine x r_move <| x r_move <| x (r_lenA h rfl) <| x (r_lss rfl rfl) <| xe ?_
  refine W_ifn rfl (fun h9 => ?_) (fun h9 => ?_)
  · refine W_exit ?_
    refine W_seq <| W_region (by rfl) ?_
    refine x r_assign <| xe ?_
    rw [List.take_of_length_le (by omega)] at hm
    exact W_ret ⟨[.int .i64 (-1)], ⟨rfl, trivial⟩, by unfold ixR; rw [if_neg hm]; rfl, rfl⟩
  have hlt : k < l.length := by omega
  refine W_skip ?_
  refine W_seq <| W_block <| W_seq <| W_region (by rfl) ?_
  refine x r_move <| x r_move <| xic (i := k) h rfl rfl hlt fun a14 h14 => x (r_loadA h14 rfl) <| x r_move <| x (r_eql rfl rfl) <| xe ?_
  refine W_if rfl (fun h17 => ?_) (fun h17 => ?_)
  · refine W_seq <| W_region (by rfl) ?_
    refine x r_move <| x r_assign <| xe ?_
    exact W_ret ⟨[.int .i64 k], ⟨rfl, trivial⟩, by rw [ixR_drop hm hlt h17]; rfl, rfl⟩
  refine W_skip ?_
  refine W_region (by rfl) ?_
  refine x r_move <| x (r_add rfl rfl ⟨by omega, by omega⟩) <| x r_assign <| xe ?_
  refine ⟨k + 1, by omega, ⟨rfl, trivial⟩, rfl, hlt, ?_⟩
  rw [List.take_succ_eq_append_getElem hlt, cget_eq hlt]
  simp only [List.mem_append, List.mem_singleton, not_or]
  exact ⟨hm, fun e => h17 e.symm⟩

theorem emptyR_ok {L : List Nat} {w : World} {v : Value} {l : List Int} (h : Ints L w.heap v l) (hl : l.length ≤ 1000000) :
    Ret Tryd.prog 65 [v] w fun r w' => Step [] w w' ∧ ∃ va, r = .agg #[va, .int .i64 0, .slice none 0 0, .slice none 0 0] ∧ IntsO 3 w.heap.size w' va l := by
  refine Ret.of_W Tryd.func65 rfl Tryd.ntmps65 Tryd.results65 (by simp) ?_
  refine W_seq <| W_region (by rfl) ?_
  refine xl rfl <| o_alloc (us := [.slice none 0 0, .int .i64 0, .slice none 0 0, .slice none 0 0]) rfl fun b2 w1 hs1 hb2 hB2 => xe ?_
  have hz1 := hs1.size
  have hl2 := hB2.lt
  refine W_seq <| W_region (by rfl) ?_
  refine xl rfl <| o_lit0 fun b3 w2 hs2 hb3 hB3 => x r_move <| ?_
  have hs12 := hs1.trans hs2
  have hz2 := hs2.size
  have ho2 : w2.ownsRow w1.heap.size 3 1 (.slice (some ⟨b3, 0, none⟩) 0 0) 0 [] := hB3.own (n := 0) (sz := 1) rfl (by omega) hb3
  refine xl rfl <| o_appV ho2 rfl (h.ext hs12) rfl (one_ints l) (by omega) (by omega) fun va w3 ho3 hs3 hn3 => ?_
  have ho3' : IntsO 3 w1.heap.size w3 va l := by
    have : w3.ownsRow w1.heap.size 3 1 va (0 + l.length) ([] ++ l.map (.int .i64)) := ho3
    rw [Nat.zero_add, List.nil_append] at this; exact this
  have hA := IntsO.ints (L := []) ho3' (by omega) (by simp)
  have hB23 := (hB2.ext hs2).step hs3 (own_notin ho2 hl2)
  have hW3 : Step [] w w3 := hs12.then hs3 (fun b hb => .inr (by have := (own_ge ho2 b hb).1; omega))
  refine x (r_build ⟨hA.cells, trivial⟩) <| xl rfl <| o_stores (us := [va, .int .i64 0, .slice none 0 0, .slice none 0 0]) hB23 rfl rfl rfl rfl ⟨hA.one, rfl, rfl, rfl, trivial⟩ fun w4 hs4 hB4 => xe ?_
  have ho4 := own_step ho3' hs4 (fun b hb => by have := (own_ge ho3' b hb).1; simp; omega)
  exact W_ret ⟨[.agg #[va, .int .i64 0, .slice none 0 0, .slice none 0 0]], ⟨⟨_, rfl, run_loadVar_ag rfl (hB4.at (L := []) (by simp)).cells⟩, trivial⟩, hW3.then1 hs4 hb2, va, rfl, own_base ho4 hz1⟩
end Go.Proofs.YtfhgnlkdcdlblaaDoor

/- What overseerref03's Found and Canonical compute, as plain functions. -/
namespace Go.Proofs.YtfhgnlkdcdlblaaDoor
open Go.Lg

theorem pig : ∀ (n : Nat) (l : List Int), l.Nodup → (∀ x ∈ l, 0 ≤ x ∧ x < n) → l.length ≤ n
  | 0, l, _, h => by
    cases l with
    | nil => simp
    | cons a l => have := h a List.mem_cons_self; omega
  | n + 1, l, hd, h => by
    by_cases hm : (n : Int) ∈ l
    · have h1 := pig n (l.erase (n : Int)) (hd.erase _) (fun x hx => by
        have h2 := (List.Nodup.mem_erase_iff hd).1 hx
        have h3 := h x h2.2
        have h4 : x ≠ (n : Int) := h2.1
        omega)
      rw [List.length_erase_of_mem hm] at h1
      omega
    · have := pig n l hd (fun x hx => by
        have h3 := h x hx
        have h4 : x ≠ (n : Int) := fun e => hm (by rw [← e]; exact hx)
        omega)
      omega
def fdE (a : Aut) (s : Int) (out : List Int) (v : Int) : List Int := if 0 ≤ nxt a.ed s v ∧ nxt a.ed s v ∉ out then out ++ [nxt a.ed s v] else out
def fdR (a : Aut) (out : List Int) (s : Int) : List Int := a.al.foldl (fdE a s) out
def fdL (a : Aut) : Nat → Nat → List Int → List Int
  | 0, _, out => out
  | f + 1, i, out => if i < out.length then fdL a f (i + 1) (fdR a out (cget out i)) else out
def fd0 (a : Aut) : List Int := if 0 < a.st then [0] else []
def found (a : Aut) : List Int := fdL a a.st.toNat 0 (fd0 a)
/-- What holds of the states found. -/
structure FdOk (a : Aut) (out : List Int) : Prop where
  b : ∀ x ∈ out, 0 ≤ x ∧ x < a.st
  d : out.Nodup
theorem FdOk.len {a : Aut} {out : List Int} (h : FdOk a out) (h0 : 0 ≤ a.st) : out.length ≤ a.st.toNat := pig _ _ h.d (fun x hx => by have := h.b x hx; omega)
theorem nxt_mem {es : List Ed} {s v : Int} (h : 0 ≤ nxt es s v) : (s, v, nxt es s v) ∈ es := by
  induction es with
  | nil => simp [nxt] at h
  | cons e es ih =>
    rw [nxt] at h ⊢
    split at h
    · rename_i he
      rw [if_pos he]
      obtain ⟨p, q, r⟩ := e
      obtain ⟨h1, h2⟩ := he
      simp only [] at h1 h2
      subst h1 h2
      exact List.mem_cons_self
    · rename_i he
      rw [if_neg he]
      exact List.mem_cons_of_mem _ (ih h)
theorem fdE_ok {a : Aut} (ho : Okay a) {out : List Int} (h : FdOk a out) (s v : Int) : FdOk a (fdE a s out v) := by
  unfold fdE
  split
  · rename_i hc
    have hm := ho.ed _ (nxt_mem hc.1)
    refine ⟨fun x hx => ?_, ?_⟩
    · rcases List.mem_append.1 hx with hx | hx
      · exact h.b x hx
      · simp only [List.mem_singleton] at hx; subst hx; exact ⟨hc.1, hm.2.2.2.2⟩
    · rw [List.nodup_append]
      refine ⟨h.d, by simp, fun x hx y hy => ?_⟩
      simp only [List.mem_singleton] at hy
      subst hy
      exact fun e => hc.2 (by rw [← e]; exact hx)
  · exact h
theorem fdE_sub {a : Aut} {out : List Int} {s v : Int} : ∀ x ∈ out, x ∈ fdE a s out v := fun x hx => by unfold fdE; split; exact List.mem_append_left _ hx; exact hx
theorem fdE_in {a : Aut} {out : List Int} {s v : Int} (h : 0 ≤ nxt a.ed s v) : nxt a.ed s v ∈ fdE a s out v := by
  unfold fdE
  by_cases hm : nxt a.ed s v ∈ out
  · rw [if_neg (fun e => e.2 hm)]; exact hm
  · rw [if_pos ⟨h, hm⟩]; simp
theorem fdF_ok {a : Aut} (ho : Okay a) (s : Int) : ∀ (vs : List Int) (out : List Int), FdOk a out → FdOk a (vs.foldl (fdE a s) out)
  | [], _, h => h
  | v :: vs, _, h => fdF_ok ho s vs _ (fdE_ok ho h s v)
theorem fdF_sub {a : Aut} {s : Int} : ∀ (vs : List Int) (out : List Int), ∀ x ∈ out, x ∈ vs.foldl (fdE a s) out
  | [], _, _, hx => hx
  | _ :: vs, _, x, hx => fdF_sub vs _ x (fdE_sub x hx)
theorem fdF_in {a : Aut} {s : Int} : ∀ (vs : List Int) (out : List Int), ∀ v ∈ vs, 0 ≤ nxt a.ed s v → nxt a.ed s v ∈ vs.foldl (fdE a s) out
  | v :: vs, out, u, hu, h => by
    rcases List.mem_cons.1 hu with rfl | hu
    · exact fdF_sub vs _ _ (fdE_in h)
    · exact fdF_in vs _ u hu h
theorem fdF_pre {a : Aut} {s : Int} : ∀ (vs : List Int) (out : List Int), ∃ r, vs.foldl (fdE a s) out = out ++ r
  | [], out => ⟨[], by simp⟩
  | v :: vs, out => by
    obtain ⟨r, hr⟩ := fdF_pre (a := a) (s := s) vs (fdE a s out v)
    rw [List.foldl_cons, hr]
    unfold fdE
    split
    · exact ⟨[nxt a.ed s v] ++ r, by simp⟩
    · exact ⟨r, rfl⟩
theorem cget_pre {l r : List Int} {i : Nat} (h : i < l.length) : cget (l ++ r) i = cget l i := by
  rw [← cget_eq h, ← cget_eq (by simp; omega), List.getElem_append_left h]
/-- The states up to i have their steps. -/
def Cl (a : Aut) (out : List Int) (i : Nat) : Prop := ∀ j, j < i → j < out.length → ∀ v ∈ a.al, 0 ≤ nxt a.ed (cget out j) v → nxt a.ed (cget out j) v ∈ out
theorem Cl.next {a : Aut} {out : List Int} {i : Nat} (h : Cl a out i) (hi : i < out.length) : Cl a (fdR a out (cget out i)) (i + 1) := by
  intro j hj hjl v hv hn
  obtain ⟨r, hr⟩ := fdF_pre (a := a) (s := cget out i) a.al out
  have hr' : fdR a out (cget out i) = out ++ r := hr
  have hjo : j < out.length := by omega
  rw [hr', cget_pre hjo] at hn ⊢
  by_cases e : j = i
  · subst e
    have := fdF_in a.al out v hv hn
    rw [← hr']; exact this
  · exact List.mem_append_left _ (h j (by omega) hjo v hv hn)
theorem fdL_ok {a : Aut} (ho : Okay a) : ∀ (f i : Nat) (out : List Int), FdOk a out → Cl a out i → i + f = a.st.toNat → FdOk a (fdL a f i out) ∧ Cl a (fdL a f i out) (fdL a f i out).length
  | 0, i, out, h, hc, hf => by
    have := h.len ho.st0
    exact ⟨h, fun j hj hjl => hc j (by rw [fdL] at hj; omega) hjl⟩
  | f + 1, i, out, h, hc, hf => by
    rw [fdL]
    split
    · rename_i hi
      exact fdL_ok ho f (i + 1) _ (fdF_ok ho _ _ _ h) (hc.next hi) (by omega)
    · rename_i hi
      exact ⟨h, fun j hj hjl => hc j (by omega) hjl⟩
theorem fd0_ok (a : Aut) : FdOk a (fd0 a) := by
  unfold fd0
  split
  · rename_i h
    exact ⟨fun x hx => by simp only [List.mem_singleton] at hx; subst hx; exact ⟨by omega, h⟩, by simp⟩
  · exact ⟨by simp, by simp⟩
theorem found_ok {a : Aut} (ho : Okay a) : FdOk a (found a) ∧ ∀ s ∈ found a, ∀ v ∈ a.al, 0 ≤ nxt a.ed s v → nxt a.ed s v ∈ found a := by
  obtain ⟨h1, h2⟩ := fdL_ok ho a.st.toNat 0 (fd0 a) (fd0_ok a) (fun j hj => by omega) (by omega)
  refine ⟨h1, fun s hs v hv hn => ?_⟩
  obtain ⟨j, hj, rfl⟩ := List.getElem_of_mem hs
  have := h2 j hj hj v hv
  unfold found at hj hn ⊢
  rw [cget_eq hj] at hn ⊢
  exact this hn
/-! ### The canonical form -/
def canF (a : Aut) (fd : List Int) (i : Nat) (v : Int) : Option Ed := if 0 ≤ nxt a.ed (cget fd i) v then some ((i : Int), v, ixR fd (nxt a.ed (cget fd i) v)) else none
def canM (a : Aut) (fd : List Int) (n : Nat) : List Int := ((List.range' 0 n).filter fun i => decide (cget fd i ∈ a.mr)).map fun i : Nat => (i : Int)
def canE (a : Aut) (fd : List Int) (n : Nat) : List Ed := (List.range' 0 n).flatMap fun i => a.al.filterMap (canF a fd i)
def canR (a : Aut) : Aut := ⟨a.al, (found a).length, canM a (found a) (found a).length, canE a (found a) (found a).length⟩
theorem pw_filterMap {β : Type} {r : Int → Int → Prop} {q : β → β → Prop} {g : Int → Option β} (hg : ∀ x y u v, r x y → g x = some u → g y = some v → q u v) : ∀ {l : List Int}, l.Pairwise r → (l.filterMap g).Pairwise q
  | [], _ => by simp
  | x :: l, h => by
    obtain ⟨h1, h2⟩ := List.pairwise_cons.1 h
    rw [List.filterMap_cons]
    split
    · exact pw_filterMap hg h2
    · rename_i u hu
      refine List.pairwise_cons.2 ⟨fun v hv => ?_, pw_filterMap hg h2⟩
      obtain ⟨y, hy, hyv⟩ := List.mem_filterMap.1 hv
      exact hg x y u v (h1 y hy) hu hyv
theorem canR_ok {a : Aut} (ho : Okay a) : Okay (canR a) ∧ (canR a).al = a.al ∧ (canR a).st ≤ a.st := by
  obtain ⟨h1, h2⟩ := found_ok ho
  have hl := h1.len ho.st0
  have h0 := ho.st0
  have h4 := ho.st1
  refine ⟨⟨ho.al, ho.ali, by simp [canR], by simp only [canR]; omega, fun s hs => ?_, ?_, fun e he => ?_, ?_⟩, rfl, by simp only [canR]; omega⟩
  · simp only [canR, canM, List.mem_map, List.mem_filter, List.mem_range'_1] at hs
    obtain ⟨i, ⟨hi, _⟩, rfl⟩ := hs
    simp only [canR]; omega
  · simp only [canR, canM]
    unfold Inc
    rw [List.pairwise_map]
    refine List.Pairwise.sublist List.filter_sublist ?_
    exact (List.pairwise_lt_range' (s := 0) (n := (found a).length)).imp (fun h => by omega)
  · simp only [canR, canE, List.mem_flatMap, List.mem_filterMap, List.mem_range'_1] at he
    obtain ⟨i, ⟨_, hi⟩, v, hv, hf⟩ := he
    unfold canF at hf
    split at hf
    · rename_i hn
      cases hf
      have hi' : i < (found a).length := by omega
      have hm := h2 (cget (found a) i) (by rw [← cget_eq hi']; exact List.getElem_mem hi') v hv hn
      have hx := List.idxOf_lt_length_of_mem hm
      simp only [canR]
      unfold ixR
      rw [if_pos hm]
      exact ⟨by omega, by omega, hv, by omega, by omega⟩
    · cases hf
  · simp only [canR, canE]
    have key : ∀ (is : List Nat), is.Pairwise (· < ·) → (is.flatMap fun i => a.al.filterMap (canF a (found a) i)).Pairwise fun x y : Ed => x.1 < y.1 ∨ (x.1 = y.1 ∧ x.2.1 < y.2.1) := by
      intro is
      induction is with
      | nil => intro _; simp
      | cons i is ih =>
        intro hp
        obtain ⟨p1, p2⟩ := List.pairwise_cons.1 hp
        rw [List.flatMap_cons, List.pairwise_append]
        have from_i : ∀ (i : Nat) (e : Ed), e ∈ a.al.filterMap (canF a (found a) i) → e.1 = i := by
          intro i e he
          obtain ⟨v, _, hf⟩ := List.mem_filterMap.1 he
          unfold canF at hf
          split at hf
          · cases hf; rfl
          · cases hf
        refine ⟨?_, ih p2, fun e he e' he' => ?_⟩
        · refine pw_filterMap (r := (· < ·)) (fun x y u v hxy hu hv => ?_) ho.ali
          unfold canF at hu hv
          split at hu
          · cases hu
            split at hv
            · cases hv
              exact .inr ⟨rfl, hxy⟩
            · cases hv
          · cases hu
        · obtain ⟨j, hj, he2⟩ := List.mem_flatMap.1 he'
          have e1 := from_i i e he
          have e2 := from_i j e' he2
          have := p1 j hj
          left; omega
    exact key _ (List.pairwise_lt_range' (s := 0) (n := (found a).length))
end Go.Proofs.YtfhgnlkdcdlblaaDoor

/- Contract: overseerref03's Found. -/
namespace Go.Proofs.YtfhgnlkdcdlblaaDoor
open Go.Lg

set_option maxHeartbeats 1000000 in
theorem foundR_ok {L : List Nat} {w : World} {va vm ve : Value} {a : Aut} (h : AutA L w.heap va vm ve a) (ho : Okay a) :
    Ret Tryd.prog 93 [.agg #[va, .int .i64 a.st, vm, ve]] w fun r w' => Step [] w w' ∧ IntsO 3 w.heap.size w' r (found a) := by
  have h0 := ho.st0
  have h1 := ho.st1
  have hal := ho.al_le
  refine Ret.of_W Tryd.func93 rfl Tryd.ntmps93 Tryd.results93 (by simp) ?_
  refine W_seq <| W_region (by rfl) ?_
  refine xl rfl <| o_box (us := [va, .int .i64 a.st, vm, ve]) rfl fun b1 w1 hs1 hb1 hB1 => x r_assign <| xe ?_
  refine W_seq <| W_region (by rfl) ?_
  refine x r_assign <| xe ?_
  have hz1 := hs1.size
  have hl1 := hB1.lt
  refine W_cut (α := Value) [(3, 3), (7, 12)] (fun z => [(3, z)]) (fun z w' => Step [] w1 w' ∧ IntsO 3 w1.heap.size w' z (fd0 a)) (by rfl) ?_ ?_
  · refine W_seq <| W_region (by rfl) ?_
    refine x (r_fieldB rfl) <| x (r_loadB hB1 rfl rfl) <| x (r_gtr rfl rfl) <| xe ?_
    refine W_ifn rfl (fun h9 => ?_) (fun h9 => ?_)
    · refine W_skip ?_
      exact ⟨.slice none 0 0, ⟨rfl, trivial⟩, Step.refl _ _, by unfold fd0; rw [if_neg h9]; exact own_nil _ _ _ _⟩
    refine W_region (by rfl) ?_
    refine x r_move <| xl rfl <| o_lits (us := [[.int .i64 0]]) rfl rfl (by decide) (by simp) ⟨rfl, rfl, trivial⟩ fun b11 w2 hs2 hb11 hB11 => ?_
    have hn : w2.ownsRow w1.heap.size 3 1 (.slice none 0 0) 0 [] := own_nil _ _ _ _
    have hz2 := hs2.size
    refine xl rfl <| o_app (news := [.int .i64 0]) (L := []) hn rfl rfl rfl (hB11.at (by simp)) (by simp [Value.oneCell']) (by omega) (by omega) fun v3 w3 ho3 hs3 hn3 =>
      x r_assign <| xe ?_
    refine ⟨v3, ⟨rfl, trivial⟩, hs2.then hs3 (fun b hb => by simp [ob] at hb), ?_⟩
    unfold fd0
    rw [if_pos h9]; exact ho3
  rintro v0 g4 w4 ⟨hs4, ho4⟩
  have hW4 := hs1.trans hs4
  have hz4 := hs4.size
  refine exE (found a) fun T hT => ?_
  have hT' : fdL a a.st.toNat 0 (fd0 a) = T := hT
  refine W_seq <| W_seq <| W_region (by rfl) ?_
  refine x r_assign <| xe ?_
  refine W_block <| W_loop (α := Nat × List Int × Value) [(3, 6), (13, 48)] (fun z => [(3, z.2.2), (4, .int .i64 z.1)])
    (fun z w' => Step [] w1 w' ∧ IntsO 3 w1.heap.size w' z.2.2 z.2.1 ∧ FdOk a z.2.1 ∧ z.1 ≤ z.2.1.length ∧ fdL a (a.st.toNat - z.1) z.1 z.2.1 = T) (fun z => a.st.toNat - z.1) (by rfl) (0, fd0 a, v0) ⟨rfl, rfl, trivial⟩
    ⟨hs4, ho4, fd0_ok a, Nat.zero_le _, hT'⟩ ?_
  rintro ⟨i, out, v⟩ g5 w5 ⟨hs5, ho5, hfd, hi, hr5⟩
  simp only [] at ho5 hfd hi hr5
  have hlen := hfd.len h0
  have hI5 := IntsO.ints (L := []) ho5 (by omega) (by simp)
  refine W_seq <| W_seq <| W_region (by rfl) ?_
  refine x r_move <| x r_move <| x (r_lenA hI5 rfl) <| x (r_lss rfl rfl) <| xe ?_
  refine W_ifn rfl (fun h16 => ?_) (fun h16 => ?_)
  · have e : out = T := by
      rw [← hr5]
      generalize a.st.toNat - i = f
      cases f with
      | zero => rfl
      | succ f => rw [fdL, if_neg (by omega)]
    refine W_exit ?_
    refine W_seq <| W_region (by rfl) ?_
    refine x r_move <| x r_assign <| xe ?_
    rw [e] at ho5
    exact W_ret ⟨[v], ⟨rfl, trivial⟩, hs1.trans hs5, by rw [hT]; exact own_base ho5 hz1⟩
  have hlt : i < out.length := by omega
  have hfu : a.st.toNat - i = (a.st.toNat - (i + 1)) + 1 := by omega
  rw [hfu, fdL, if_pos hlt] at hr5
  refine exE (cget out i) fun s hse => ?_
  rw [hse] at hr5
  refine exE (fdR a out s) fun R hR => ?_
  rw [hR] at hr5
  unfold fdR at hR
  refine W_skip ?_
  refine W_seq <| W_block <| W_seq <| W_region (by rfl) ?_
  refine x r_assign <| xe ?_
  refine W_block <| W_loop (α := Nat × List Int × Value) [(3, 3), (5, 6), (19, 48)] (fun z => [(3, z.2.2), (5, .int .i64 z.1)])
    (fun z w' => Step [] w1 w' ∧ IntsO 3 w1.heap.size w' z.2.2 z.2.1 ∧ FdOk a z.2.1 ∧ z.1 ≤ a.al.length ∧ i < z.2.1.length ∧ cget z.2.1 i = s ∧ (a.al.drop z.1).foldl (fdE a s) z.2.1 = R) (fun z => a.al.length - z.1) (by rfl) (0, out, v) ⟨rfl, rfl, trivial⟩
    ⟨hs5, ho5, hfd, Nat.zero_le _, hlt, hse, hR⟩ ?_
  clear hs5 ho5 hfd hi hlen hI5 hlt hse hR h16
  rintro ⟨k, out, v⟩ g6 w6 ⟨hs6, ho6, hfd, hk, hlt, hse, hr6⟩
  simp only [] at ho6 hfd hk hlt hse hr6
  have hlen := hfd.len h0
  have hal6 := (h.al.ext hs1).ext hs6
  have hB16 := hB1.ext hs6
  have hI6 := IntsO.ints (L := []) ho6 (by omega) (by simp)
  refine W_seq <| W_seq <| W_region (by rfl) ?_
  refine x r_move <| x (r_fieldB rfl) <| x (r_loadB hB16 rfl rfl) <| x (r_lenA hal6 rfl) <| x (r_lss rfl rfl) <| xe ?_
  refine W_ifn rfl (fun h23 => ?_) (fun h23 => ?_)
  · refine W_exit ?_
    refine W_region (by rfl) ?_
    refine x r_move <| x (r_add rfl rfl ⟨by omega, by omega⟩) <| x r_assign <| xe ?_
    rw [List.drop_of_length_le (by omega)] at hr6
    have hr6' : out = R := hr6
    exact ⟨(i + 1, out, v), by simp only []; omega, ⟨rfl, rfl, trivial⟩, hs6, ho6, hfd, hlt, by simp only []; rw [hr6']; exact hr5⟩
  have hltk : k < a.al.length := by omega
  rw [List.drop_eq_getElem_cons hltk, List.foldl_cons, cget_eq hltk] at hr6
  refine exE (cget a.al k) fun u hu => ?_
  rw [hu] at hr6
  have hed6 := (h.ed.ext hs1).ext hs6
  refine exE (nxt a.ed s u) fun t ht => ?_
  have hfe : fdE a s out u = if 0 ≤ t ∧ t ∉ out then out ++ [t] else out := by unfold fdE; rw [ht]
  have hok' := fdE_ok ho hfd s u
  rw [hfe] at hr6 hok'
  refine W_skip ?_
  refine W_seq <| W_block <| W_seq <| W_draw (Step [] w6) [(0, true), (1, true), (2, true), (3, true), (4, true), (5, true), (6, true), (7, true), (8, true), (9, true), (10, false), (11, true)] Tryd.mixed (by rfl) (by kernel_rfl) (Step.drew _ _) ?_
  refine pq (fun _ hc => r_loadsB (hB16.ext hc) rfl rfl) <| p (fun _ => r_move) <| p (fun _ => r_move) <| pic (i := i) rfl hI6 rfl rfl hlt fun a29 h29 => ?_
  rw [hse] at h29
  refine pq (fun _ hc => r_loadA (h29.ext hc) rfl) <| p (fun _ => r_fieldB rfl) <| pq (fun _ hc => r_loadB (hB16.ext hc) rfl rfl) <| p (fun _ => r_move) <|
    pic (i := k) rfl hal6 rfl rfl hltk fun a34 h34 => ?_
  rw [hu] at h34
  have hsr := stepR_ok (va := va) (vm := vm) (a := a) (hed6.ext (Step.drew [] w6)) s u a.st
  rw [ht] at hsr
  refine pq (fun _ hc => r_loadA (h34.ext hc) rfl) <| pk <| xf <| hsr.mono ?_
  rintro r7 w7 ⟨rfl, hs7⟩
  have hs67 := (Step.drew [] w6).trans hs7
  refine ⟨hs67, p (fun _ => r_assign) <| pe ?_⟩
  have ho7 := own_ext ho6 hs67
  have hI7 := hI6.ext hs67
  refine W_cut (α := Unit) [(37, 44)] (fun z => [(44, .bool (decide (0 ≤ t ∧ t ∉ out)))]) (fun z w' => w' = w7) (by rfl) ?_ ?_
  · refine W_region (by rfl) ?_
    refine x r_move <| xb (r_geq rfl rfl) (fun h38 => ?_) (fun h38 => ?_)
    · refine x r_move <| x r_move <| x r_move <| xl rfl <| xf <| (hasR_ok hI7 t).mono ?_
      rintro r8 w8 ⟨rfl, rfl⟩
      refine x (r_not rfl) <| x (r_pick rfl) <| xe ?_
      refine ⟨(), ⟨congrArg Value.bool ?_, trivial⟩, rfl⟩
      show (!decide (t ∈ out)) = _
      rw [Bool.eq_iff_iff]; simp [h38]
    refine x r_move <| xs rfl <| xs rfl <| xs rfl <| xs rfl <| x (r_pick rfl) <| xe ?_
    exact ⟨(), ⟨congrArg Value.bool (decide_eq_false (fun e => h38 e.1)).symm, trivial⟩, rfl⟩
  rintro _ g9 w9 rfl
  refine W_ifn rfl (fun h44 => ?_) (fun h44 => ?_)
  · rw [if_neg h44] at hr6
    refine W_skip ?_
    refine W_region (by rfl) ?_
    refine x r_move <| x (r_add rfl rfl ⟨by omega, by omega⟩) <| x r_assign <| xe ?_
    exact ⟨(k + 1, out, v), by simp only []; omega, ⟨rfl, rfl, trivial⟩, hs6.trans hs67, ho7, hfd, hltk, hlt, hse, hr6⟩
  rw [if_pos h44] at hr6 hok'
  have hs17 := hs6.trans hs67
  have hz7 := hs17.size
  refine W_region (by rfl) ?_
  refine x r_move <| x r_move <| xl rfl <| o_lits (us := [[.int .i64 t]]) rfl rfl (by decide) (by simp) ⟨rfl, rfl, trivial⟩ fun b47 w10 hs10 hb47 hB47 => ?_
  have ho10 := own_ext ho7 hs10
  have hz10 := hs10.size
  refine xl rfl <| o_app (news := [.int .i64 t]) (L := []) ho10 rfl rfl rfl (hB47.at (by simp)) (by simp [Value.oneCell']) (by omega) (by omega) fun v11 w11 ho11 hs11 hn11 =>
    x r_assign <| xe ?_
  have hge := own_ge ho6
  refine W_region (by rfl) ?_
  refine x r_move <| x (r_add rfl rfl ⟨by omega, by omega⟩) <| x r_assign <| xe ?_
  refine ⟨(k + 1, out ++ [t], v11), by simp only []; omega, ⟨rfl, rfl, trivial⟩, (hs17.trans hs10).then hs11 (fun b hb => .inr (hge b hb).1), IntsO.snoc ho11, hok', hltk, by simp; omega, ?_, hr6⟩
  simp only []
  rw [cget_pre hlt]; exact hse
end Go.Proofs.YtfhgnlkdcdlblaaDoor

/- Contract: overseerref03's Canonical. -/
namespace Go.Proofs.YtfhgnlkdcdlblaaDoor
open Go.Lg

/-- What the loops hold. -/
structure CrI (w7 : World) (b4 : Nat) (vcl : Value) (n : Int) (vm vd : Value) (M : List Int) (E : List Ed) (w : World) : Prop where
  st : Step [b4] w7 w
  B : Blk w.heap b4 35 [vcl, .int .i64 n, vm, vd]
  m : IntsO 3 w7.heap.size w vm M
  e : EdsO 93 w7.heap.size w vd E
  dj : Dj vm vd
section
variable {w7 w w' w'' : World} {b4 : Nat} {vcl : Value} {n : Int} {vm vd : Value} {M : List Int} {E : List Ed}
theorem CrI.ext (h : CrI w7 b4 vcl n vm vd M E w) (hs : Step [] w w') : CrI w7 b4 vcl n vm vd M E w' := ⟨h.st.trans hs, h.B.ext hs, own_ext h.m hs, own_ext h.e hs, h.dj⟩
theorem CrI.setM (h : CrI w7 b4 vcl n vm vd M E w) (hb : b4 < w7.heap.size) {vm' : Value} {M' : List Int} (hs : Step (ob vm) w w') (hm : IntsO 3 w7.heap.size w' vm' M') (hn : ∀ b ∈ ob vm', b ∈ ob vm ∨ w.heap.size ≤ b) (hs2 : Step [b4] w' w'')
    (hB : Blk w''.heap b4 35 [vcl, .int .i64 n, vm', vd]) : CrI w7 b4 vcl n vm' vd M' E w'' :=
  ⟨(h.st.then hs (fun b hb => .inr (own_ge h.m b hb).1)).trans' hs2, hB, own_step hm hs2 (fun b hb' => by have := (own_ge hm b hb').1; simp; omega),
    own_step (own_step h.e hs h.dj.symm) hs2 (fun b hb' => by have := (own_ge h.e b hb').1; simp; omega), (h.dj.symm.grow hn (own_lt h.e)).symm⟩
theorem CrI.setE (h : CrI w7 b4 vcl n vm vd M E w) (hb : b4 < w7.heap.size) {vd' : Value} {E' : List Ed} (hs : Step (ob vd) w w') (hm : EdsO 93 w7.heap.size w' vd' E') (hn : ∀ b ∈ ob vd', b ∈ ob vd ∨ w.heap.size ≤ b) (hs2 : Step [b4] w' w'')
    (hB : Blk w''.heap b4 35 [vcl, .int .i64 n, vm, vd']) : CrI w7 b4 vcl n vm vd' M E' w'' :=
  ⟨(h.st.then hs (fun b hb => .inr (own_ge h.e b hb).1)).trans' hs2, hB, own_step (own_step h.m hs h.dj) hs2 (fun b hb' => by have := (own_ge h.m b hb').1; simp; omega),
    own_step hm hs2 (fun b hb' => by have := (own_ge hm b hb').1; simp; omega), h.dj.grow hn (own_lt h.m)⟩
end
theorem canM_succ (a : Aut) (fd : List Int) (k : Nat) : canM a fd (k + 1) = if cget fd k ∈ a.mr then canM a fd k ++ [(k : Int)] else canM a fd k := by
  unfold canM
  rw [List.range'_1_concat, List.filter_append, List.map_append, Nat.zero_add]
  by_cases h : cget fd k ∈ a.mr
  · rw [if_pos h, List.filter_cons, if_pos (decide_eq_true h)]; rfl
  · rw [if_neg h, List.filter_cons, if_neg (by rw [decide_eq_false h]; simp), List.filter_nil, List.map_nil, List.append_nil]
theorem canM_len (a : Aut) (fd : List Int) : ∀ k, (canM a fd k).length ≤ k
  | 0 => by simp [canM]
  | k + 1 => by
    have := canM_len a fd k
    rw [canM_succ]
    split
    · simp; omega
    · omega
theorem canE_succ (a : Aut) (fd : List Int) (k : Nat) : canE a fd (k + 1) = canE a fd k ++ a.al.filterMap (canF a fd k) := by
  unfold canE
  rw [List.range'_1_concat, List.flatMap_append, Nat.zero_add]; simp

set_option maxHeartbeats 2000000 in
theorem canonicalR_ok {L : List Nat} {w : World} {va vm ve : Value} {a : Aut} (h : AutA L w.heap va vm ve a) (ho : Okay a) :
    Ret Tryd.prog 66 [.agg #[va, .int .i64 a.st, vm, ve]] w fun r w' => Step [] w w' ∧ AutF w.heap.size w'.heap r (canR a) := by
  have h0 := ho.st0
  have h1 := ho.st1
  have hal := ho.al_le
  have hfo := (found_ok ho).1
  have hfl := hfo.len h0
  refine Ret.of_W Tryd.func66 rfl Tryd.ntmps66 Tryd.results66 (by simp) ?_
  refine exE (found a) fun fd hfd => ?_
  rw [hfd] at hfl
  have hcan : canR a = ⟨a.al, fd.length, canM a fd fd.length, canE a fd fd.length⟩ := by unfold canR; rw [hfd]
  refine W_seq <| W_region (by rfl) ?_
  refine xl rfl <| o_box (us := [va, .int .i64 a.st, vm, ve]) rfl fun b1 w1 hs1 hb1 hB1 => xl rfl <| o_alloc (us := [.slice none 0 0, .int .i64 0, .slice none 0 0, .slice none 0 0]) rfl fun b2 w2 hs2 hb2 hB2 => xe ?_
  have hs12 := hs1.trans hs2
  have hfr := foundR_ok (h.ext hs12) ho
  rw [hfd] at hfr
  refine W_seq <| W_region (by rfl) ?_
  refine x (r_loadsB (hB1.ext hs2) rfl rfl) <| xl rfl <| xf <| hfr.mono ?_
  rintro vf w3 ⟨hs3, hof⟩
  refine x r_assign <| xe ?_
  have hs13 := hs12.trans hs3
  have hB13 := (hB1.ext hs2).ext hs3
  refine W_seq <| W_region (by rfl) ?_
  refine x (r_fieldB rfl) <| x (r_loadB hB13 rfl rfl) <| xl rfl <| xf <| (emptyR_ok (h.al.ext hs13) (by omega)).mono ?_
  rintro r4 w4 ⟨hs4, vcl, rfl, hcl⟩
  have hclA := IntsO.ints (L := []) hcl (by omega) (by simp)
  refine xl rfl <| o_alloc (us := [.slice none 0 0, .int .i64 0, .slice none 0 0, .slice none 0 0]) rfl fun b4 w5 hs5 hb4 hB4 =>
    xl rfl <| o_stores (us := [vcl, .int .i64 0, .slice none 0 0, .slice none 0 0]) hB4 rfl rfl rfl rfl ⟨hclA.one, rfl, rfl, rfl, trivial⟩ fun w6 hs6 hB6 => xe ?_
  have hs46 : Step [] w4 w6 := hs5.then1 hs6 hb4
  have hs36 := hs4.trans hs46
  have hfA3 := IntsO.ints (L := []) hof (by omega) (by simp)
  have hz1 := hs1.size
  have hz2 := hs2.size
  have hz3 := hs3.size
  have hz4 := hs4.size
  have hz46 := hs46.size
  have hl1 := hB1.lt
  have hl2 := hB2.lt
  have hl4 := hB6.lt
  refine W_seq <| W_region (by rfl) ?_
  refine x r_move <| x (r_lenA hfA3 rfl) <| x (r_fieldB rfl) <| xl rfl <| o_store (u := .int .i64 fd.length) hB6 rfl rfl (by simp) rfl fun w7 hs7 hB7 => xe ?_
  have hz7 := hs7.size
  have hs37 : Step [b4] w3 w7 := (hs36.any (L := [b4])).trans' hs7
  have hW7 : Step [] w w7 := (hs13.trans hs36).then1 hs7 (by omega)
  have hf7 : Ints [b4] w7.heap vf fd := ((hfA3.up (L' := [b4]) (fun b hb => .inr (by simp at hb; omega))).ext hs36).st hs7
  have ha7 : AutA [b4] w7.heap va vm ve a := (h.up (fun b hb => .inr (by simp at hb; omega))).ext hW7
  have hc7 : IntsO 3 w3.heap.size w7 vcl a.al := own_step (own_ext hcl hs46) hs7 (fun b hb => by have := own_lt hcl b hb; simp; omega)
  have hB17 := (hB13.ext hs36).step hs7 (by simp; omega)
  have hB27 := ((hB2.ext hs3).ext hs36).step hs7 (by simp; omega)
  have hl7 : b4 < w7.heap.size := by omega
  have n1 : b1 ∉ [b4] := by simp; omega
  have n2 : b2 ∉ [b4] := by simp; omega
  refine W_seq <| W_seq <| W_region (by rfl) ?_
  refine x r_assign <| xe ?_
  refine W_block <| W_loop (α := Nat × Value × Value) [(5, 7), (16, 69)] (fun z => [(5, .int .i64 z.1)])
    (fun z w' => z.1 ≤ fd.length ∧ CrI w7 b4 vcl fd.length z.2.1 z.2.2 (canM a fd z.1) (canE a fd z.1) w' ∧ (canE a fd z.1).length ≤ z.1 * 32) (fun z => fd.length - z.1) (by rfl) (0, .slice none 0 0, .slice none 0 0) ⟨rfl, trivial⟩
    ⟨Nat.zero_le _, ⟨Step.refl _ _, hB7, own_nil _ _ _ _, own_nil _ _ _ _, Dj.nil' _⟩, Nat.zero_le _⟩ ?_
  rintro ⟨i, v1, v2⟩ g8 w8 ⟨hi, hI, hel⟩
  simp only [] at hi hI hel
  have hml := canM_len a fd i
  have hf8 := hf7.st hI.st
  refine W_seq <| W_seq <| W_region (by rfl) ?_
  refine x r_move <| x r_move <| x (r_lenA hf8 rfl) <| x (r_lss rfl rfl) <| xe ?_
  refine W_ifn rfl (fun h19 => ?_) (fun h19 => ?_)
  · have hie : i = fd.length := by omega
    rw [hie] at hI hel hml
    refine W_exit ?_
    have hmA := IntsO.ints (L := []) hI.m (by omega) (by simp)
    have heA := EdsO.eds (L := []) hI.e (by omega) (by simp)
    refine W_seq <| W_region (by rfl) ?_
    refine x (r_loadsB hI.B rfl rfl) <| xl rfl <| o_stores (us := [vcl, .int .i64 fd.length, v1, v2]) (hB27.step hI.st n2) rfl rfl rfl rfl ⟨hclA.one, rfl, hmA.one, heA.one, trivial⟩ fun w9 hs9 hB9 => xe ?_
    refine W_ret ⟨[.agg #[vcl, .int .i64 fd.length, v1, v2]], ⟨⟨_, rfl, run_loadVar_ag rfl (hB9.at (L := []) (by simp)).cells⟩, trivial⟩, (hW7.then1 hI.st (by omega)).then1 hs9 (by omega), ?_⟩
    rw [hcan]
    have k1 := own_step (own_step hc7 hI.st (fun b hb => by have := own_lt hcl b hb; simp; omega)) hs9 (fun b hb => by have := (own_ge hcl b hb).1; simp; omega)
    have k2 := own_step hI.m hs9 (fun b hb => by have := (own_ge hI.m b hb).1; simp; omega)
    have k3 := own_step hI.e hs9 (fun b hb => by have := (own_ge hI.e b hb).1; simp; omega)
    refine ⟨vcl, v1, v2, rfl, fun L' hL' => ⟨?_, ?_, ?_⟩⟩
    · exact IntsO.ints k1 (by show a.al.length ≤ _; omega) (fun b hb => by have := hL' b hb; omega)
    · exact IntsO.ints k2 (by show (canM a fd fd.length).length ≤ _; omega) (fun b hb => by have := hL' b hb; omega)
    · exact EdsO.eds k3 (by show (canE a fd fd.length).length ≤ _; omega) (fun b hb => by have := hL' b hb; omega)
  have hlt : i < fd.length := by omega
  refine exE (cget fd i) fun s hse => ?_
  have hms := canM_succ a fd i
  rw [hse] at hms
  refine W_skip ?_
  refine W_seq <| W_block <| W_cut (α := Value) [(22, 34)] (fun z => []) (fun z w' => CrI w7 b4 vcl fd.length z v2 (canM a fd (i + 1)) (canE a fd i) w') (by rfl) ?_ ?_
  · have ha8 := ha7.st hI.st
    have hB18 := hB17.step hI.st n1
    refine W_seq <| W_draw (Step [] w8) [(0, true), (1, true), (2, true), (3, true), (4, true), (5, true), (6, false)] Tryd.mixed (by rfl) (by kernel_rfl) (Step.drew _ _) ?_
    refine p (fun _ => r_fieldB rfl) <| pq (fun _ hc => r_loadB (hB18.ext hc) rfl rfl) <| p (fun _ => r_move) <| p (fun _ => r_move) <| pic (i := i) rfl hf8 rfl rfl hlt fun a26 h26 => ?_
    rw [hse] at h26
    refine pq (fun _ hc => r_loadA (h26.ext hc) rfl) <| pk <| xf <| (hasR_ok (ha8.mr.ext (Step.drew [] w8)) s).mono ?_
    rintro r10 w10 ⟨rfl, rfl⟩
    have hI10 := hI.ext (Step.drew [] w8)
    refine ⟨Step.drew _ _, pe ?_⟩
    refine W_ifn rfl (fun h28 => ?_) (fun h28 => ?_)
    · rw [if_neg h28] at hms
      refine W_skip ?_
      exact ⟨v1, trivial, by rw [hms]; exact hI10⟩
    rw [if_pos h28] at hms
    refine W_region (by rfl) ?_
    refine x (r_fieldB rfl) <| x (r_loadB hI10.B rfl rfl) <| x r_move <| xl rfl <| o_lits (us := [[.int .i64 i]]) rfl rfl (by decide) (by simp) ⟨rfl, rfl, trivial⟩ fun b32 w11 hs11 hb32 hB32 => ?_
    have hI11 := hI10.ext hs11
    refine xl rfl <| o_app (news := [.int .i64 i]) (L := []) hI11.m rfl rfl rfl (hB32.at (by simp)) (by simp [Value.oneCell']) (by omega) hI11.st.size fun v12 w12 ho12 hs12 hn12 => ?_
    have ho12' : IntsO 3 w7.heap.size w12 v12 (canM a fd i ++ [(i : Int)]) := IntsO.snoc ho12
    refine x (r_fieldB rfl) <| xl rfl <| o_store (hI11.B.step hs12 (own_notin hI11.m hl7)) rfl rfl (by simp) (IntsO.ints (L := []) ho12' (by simp; omega) (by simp)).one fun w13 hs13' hB13' =>
      xe ?_
    exact ⟨v12, trivial, by rw [hms]; exact hI11.setM hl7 hs12 ho12' hn12 hs13' hB13'⟩
  rintro v3 g14 w14 hI14
  refine exE (canE a fd (i + 1)) fun E1 hE1 => ?_
  have hE1' := canE_succ a fd i
  rw [hE1] at hE1'
  refine W_seq <| W_region (by rfl) ?_
  refine x r_assign <| xe ?_
  refine W_block <| W_loop (α := Nat × List Ed × Value) [(6, 7), (35, 69)] (fun z => [(6, .int .i64 z.1)])
    (fun z w' => z.1 ≤ a.al.length ∧ CrI w7 b4 vcl fd.length v3 z.2.2 (canM a fd (i + 1)) z.2.1 w' ∧ z.2.1.length ≤ i * 32 + z.1 ∧ z.2.1 ++ (a.al.drop z.1).filterMap (canF a fd i) = E1) (fun z => a.al.length - z.1) (by rfl) (0, canE a fd i, v2) ⟨rfl, trivial⟩
    ⟨Nat.zero_le _, hI14, hel, hE1'.symm⟩ ?_
  rintro ⟨k, E, vd⟩ g15 w15 ⟨hk, hI15, hl15, hr15⟩
  simp only [] at hk hI15 hl15 hr15
  have ha15 := ha7.st hI15.st
  have hB115 := hB17.step hI15.st n1
  have hf15 := hf7.st hI15.st
  refine W_seq <| W_seq <| W_region (by rfl) ?_
  refine x r_move <| x (r_fieldB rfl) <| x (r_loadB hB115 rfl rfl) <| x (r_lenA ha15.al rfl) <| x (r_lss rfl rfl) <| xe ?_
  refine W_ifn rfl (fun h39 => ?_) (fun h39 => ?_)
  · refine W_exit ?_
    refine W_region (by rfl) ?_
    refine x r_move <| x (r_add rfl rfl ⟨by omega, by omega⟩) <| x r_assign <| xe ?_
    rw [List.drop_of_length_le (by omega), List.filterMap_nil, List.append_nil] at hr15
    refine ⟨(i + 1, v3, vd), by simp only []; omega, ⟨rfl, trivial⟩, hlt, ?_, ?_⟩
    · simp only []; rw [hE1, ← hr15]; exact hI15
    · simp only []; rw [hE1, ← hr15]; omega
  have hltk : k < a.al.length := by omega
  refine exE (cget a.al k) fun u hu => ?_
  rw [List.drop_eq_getElem_cons hltk, cget_eq hltk, hu, List.filterMap_cons] at hr15
  refine exE (nxt a.ed s u) fun t ht => ?_
  have hcf : canF a fd i u = if 0 ≤ t then some ((i : Int), u, ixR fd t) else none := by unfold canF; rw [hse, ht]
  rw [hcf] at hr15
  have hsr := stepR_ok (va := va) (vm := vm) (a := a) (ha15.ed.ext (Step.drew [] w15)) s u a.st
  rw [ht] at hsr
  refine W_skip ?_
  refine W_seq <| W_block <| W_seq <| W_draw (Step [] w15) [(0, true), (1, true), (2, true), (3, true), (4, true), (5, true), (6, true), (7, true), (8, true), (9, true), (10, false), (11, true)] Tryd.mixed (by rfl) (by kernel_rfl) (Step.drew _ _) ?_
  refine pq (fun _ hc => r_loadsB (hB115.ext hc) rfl rfl) <| p (fun _ => r_move) <| p (fun _ => r_move) <| pic (i := i) rfl hf15 rfl rfl hlt fun a45 h45 => ?_
  rw [hse] at h45
  refine pq (fun _ hc => r_loadA (h45.ext hc) rfl) <| p (fun _ => r_fieldB rfl) <| pq (fun _ hc => r_loadB (hB115.ext hc) rfl rfl) <| p (fun _ => r_move) <|
    pic (i := k) rfl ha15.al rfl rfl hltk fun a50 h50 => ?_
  rw [hu] at h50
  refine pq (fun _ hc => r_loadA (h50.ext hc) rfl) <| pk <| xf <| hsr.mono ?_
  rintro r16 w16 ⟨rfl, hs16⟩
  have hs1516 := (Step.drew [] w15).trans hs16
  refine ⟨hs1516, p (fun _ => r_assign) <| pe ?_⟩
  have hI16 := hI15.ext hs1516
  have hB116 := hB115.ext hs1516
  have hf16 := hf15.ext hs1516
  refine W_seq <| W_region (by rfl) ?_
  refine x r_move <| x (r_geq rfl rfl) <| xe ?_
  refine W_ifn rfl (fun h54 => ?_) (fun h54 => ?_)
  · rw [if_neg h54] at hr15
    refine W_skip ?_
    refine W_region (by rfl) ?_
    refine x r_move <| x (r_add rfl rfl ⟨by omega, by omega⟩) <| x r_assign <| xe ?_
    exact ⟨(k + 1, E, vd), by simp only []; omega, ⟨rfl, trivial⟩, hltk, hI16, by simp only []; omega, hr15⟩
  rw [if_pos h54] at hr15
  have hvd := own_ge hI15.e
  have haD : Ints (b4 :: ob vd) w16.heap va a.al := (((ha7.al.up (L' := b4 :: ob vd) (fun b hb => by
    rcases List.mem_cons.1 hb with rfl | hb
    · exact .inl (by simp)
    · exact .inr (hvd b hb).1)).step hI15.st (by simp)).ext hs1516)
  have nb4 := own_notin hI16.e hl7
  have nb1 : b1 ∉ ob vd := own_notin hI16.e (by omega)
  refine W_draw (Step (ob vd) w16) [(0, true), (1, true), (2, true), (3, true), (4, true), (5, true), (6, true), (7, true), (8, true), (9, true), (10, false), (11, true), (12, false), (13, false), (14, true), (15, false)] Tryd.mixed (by rfl) (by kernel_rfl) (Step.drew _ _) ?_
  refine p (fun _ => r_fieldB rfl) <| pq (fun _ hc => r_loadB (hI16.B.step hc nb4) rfl rfl) <| p (fun _ => r_move) <| p (fun _ => r_fieldB rfl) <| pq (fun _ hc => r_loadB (hB116.step hc nb1) rfl rfl) <|
    p (fun _ => r_move) <| pic (i := k) rfl haD rfl rfl hltk fun a61 h61 => ?_
  rw [hu] at h61
  refine pq (fun _ hc => r_loadA (h61.step hc (fun b hb => List.mem_cons_of_mem _ hb)) rfl) <| p (fun _ => r_move) <| p (fun _ => r_move) <|
    pk <| xf <| (indexR_ok (hf16.ext (Step.drew [] w16)) t).mono ?_
  rintro r17 w17 ⟨rfl, rfl⟩
  refine ⟨Step.drew _ _, p (fun _ => r_build ⟨rfl, rfl, rfl, trivial⟩) <| pk <| o_lits (us := [edCells ((i : Int), u, ixR fd t)]) rfl rfl (by decide) (by exact (by decide : 1 * 3 ≤ 1000000)) ⟨rfl, rfl, trivial⟩ fun b67 w18 hs18 hb67 hB67 => ?_⟩
  have hs1618 := (Step.drew [] w16).trans hs18
  have hI18 := hI16.ext hs1618
  refine ⟨hs1618.any, ?_⟩
  refine pk <| o_app (news := edCells ((i : Int), u, ixR fd t)) (L := []) hI18.e rfl rfl rfl (hB67.at (by simp)) (fun y hy => by simp only [edCells, List.mem_cons, List.not_mem_nil, or_false] at hy; rcases hy with rfl | rfl | rfl <;> rfl) (by omega) hI18.st.size fun v19 w19 ho19 hs19 hn19 => ⟨(hs1618.any (L := ob vd)).trans' hs19, ?_⟩
  have ho19' : EdsO 93 w7.heap.size w19 v19 (E ++ [((i : Int), u, ixR fd t)]) := EdsO.snoc ho19
  refine p (fun _ => r_fieldB rfl) <| pkl (hl := by kernel_rfl) <| o_store (hI18.B.step hs19 (own_notin hI18.e hl7)) rfl rfl (by simp) (EdsO.eds (L := []) ho19' (by simp; omega) (by simp)).one fun w20 hs20 hB20 =>
    pe ?_
  have hI20 := hI18.setE hl7 hs19 ho19' hn19 hs20 hB20
  refine W_region (by rfl) ?_
  refine x r_move <| x (r_add rfl rfl ⟨by omega, by omega⟩) <| x r_assign <| xe ?_
  refine ⟨(k + 1, E ++ [((i : Int), u, ixR fd t)], v19), by simp only []; omega, ⟨rfl, trivial⟩, hltk, hI20, by simp; omega, ?_⟩
  simp only [List.append_assoc, List.singleton_append]
  exact hr15
end Go.Proofs.YtfhgnlkdcdlblaaDoor

/- Contracts: overseerlaw03's Events. The remainder of a division. -/
namespace Go.Lg
section
variable {P : Program} {f : Fr} {w : World} {d : Option Nat} {ty : Nat} {ps : String} {af : Array Edge} {gd : Option (Nat × Bool)}
theorem r_rem {t t' : Nat} {x y : Operand} {k : IntKind} {a b : Int} (hx : ev f x = .int k a) (hy : ev f y = .int k b) (ha : 0 ≤ a) (hb : 0 < b) :
    (execOp (ev f) ⟨d, .binOp .rem t x y t', ty, ps, af, gd⟩).run P w = .ok (.value (.int k (a % b))) w := by
  refine r_bin hx hy ?_
  have h1 : ¬ b = 0 := by omega
  simp [binOp, Op.intDiv, h1, Int.tmod_eq_emod_of_nonneg ha]
end
end Go.Lg
namespace Go.Proofs.YtfhgnlkdcdlblaaDoor
open Go.Lg

theorem events3_ok (m : Nat) (hm : m < 256) (w : World) : Ret Tryd.prog 34 [.int .u8 m] w fun r w' => Step [] w w' ∧ IntsO 3 w.heap.size w' r (setK m 5) := by
  refine Ret.of_W Tryd.func34 rfl Tryd.ntmps34 Tryd.results34 (by simp) ?_
  refine W_seq <| W_region (by rfl) ?_
  refine x r_assign <| xe ?_
  refine W_seq <| W_region (by rfl) ?_
  refine x r_assign <| xe ?_
  refine W_seq <| W_seq <| W_region (by rfl) ?_
  refine x r_assign <| xe ?_
  refine W_block <| W_loop (α := Nat × Value) [(3, 17)] (fun z => [(3, z.2), (4, .int .i64 z.1)]) (fun z w' => z.1 ≤ 5 ∧ Step [] w w' ∧ IntsO 3 w.heap.size w' z.2 (setK m z.1)) (fun z => 5 - z.1) (by rfl) (0, .slice none 0 0) ⟨rfl, rfl, trivial⟩
    ⟨Nat.zero_le _, Step.refl _ _, own_nil _ _ _ _⟩ ?_
  rintro ⟨k, v⟩ g w1 ⟨hk, hs1, ho1⟩
  simp only [] at hk ho1
  have hlen := setK_len m k
  have hz1 := hs1.size
  refine W_seq <| W_seq <| W_region (by rfl) ?_
  refine x r_move <| x (r_lss rfl rfl) <| xe ?_
  refine W_ifn rfl (fun h6 => ?_) (fun h6 => ?_)
  · refine W_exit ?_
    refine W_seq <| W_region (by rfl) ?_
    refine x r_move <| x r_assign <| xe ?_
    have hke : k = 5 := by omega
    rw [hke] at ho1
    exact W_ret ⟨[v], ⟨rfl, trivial⟩, hs1, ho1⟩
  have hlt : k < 5 := by omega
  have hdv : m / 2 ^ k < 256 := Nat.lt_of_le_of_lt (Nat.div_le_self _ _) hm
  have hsucc := setK_succ m k
  refine W_skip ?_
  refine W_seq <| W_block <| W_seq <| W_region (by rfl) ?_
  refine x r_move <| x r_move <| x (r_shr (n := k) rfl rfl (by show k ≤ 8; omega)) <| x (r_and8 (a := m / 2 ^ k) (b := 1) (congrArg (Value.int .u8) (shr_nat m k)) rfl hdv (by decide)) <| x (r_eql rfl rfl) <| xe ?_
  refine W_ifn rfl (fun h12 => ?_) (fun h12 => ?_)
  · rw [if_neg (fun e => h12 (by rw [e]; rfl))] at hsucc
    refine W_skip ?_
    refine W_region (by rfl) ?_
    refine x r_move <| x (r_add rfl rfl ⟨by omega, by omega⟩) <| x r_assign <| xe ?_
    exact ⟨(k + 1, v), by simp only []; omega, ⟨rfl, rfl, trivial⟩, hlt, hs1, by simp only []; rw [hsucc]; exact ho1⟩
  rw [if_pos (by omega)] at hsucc
  refine W_region (by rfl) ?_
  refine x r_move <| x r_move <| xl rfl <| o_lits (us := [[.int .i64 k]]) rfl rfl (by decide) (by simp) ⟨rfl, rfl, trivial⟩ fun b15 w2 hs2 hb15 hB15 => ?_
  have ho2 := own_ext ho1 hs2
  have hz2 := hs2.size
  refine xl rfl <| o_app (news := [.int .i64 k]) (L := []) ho2 rfl rfl rfl (hB15.at (by simp)) (by simp [Value.oneCell']) (by omega) (by omega) fun v3 w3 ho3 hs3 hn3 =>
    x r_assign <| xe ?_
  have hge := own_ge ho1
  refine W_region (by rfl) ?_
  refine x r_move <| x (r_add rfl rfl ⟨by omega, by omega⟩) <| x r_assign <| xe ?_
  refine ⟨(k + 1, v3), by simp only []; omega, ⟨rfl, rfl, trivial⟩, hlt, (hs1.trans hs2).then hs3 (fun b hb => .inr (hge b hb).1), ?_⟩
  simp only []
  rw [hsucc]; exact IntsO.snoc ho3
end Go.Proofs.YtfhgnlkdcdlblaaDoor

/- Contract: overseerlaw03's Make: the automaton of a graph is right, over the alphabet, with at most 5 states. -/
namespace Go.Proofs.YtfhgnlkdcdlblaaDoor
open Go.Lg

instance : Ay Tryd.prog 24 5 23 5 := ⟨by kernel_rfl, by kernel_rfl⟩
instance : Ay Tryd.prog 23 5 5 1 := ⟨by kernel_rfl, by kernel_rfl⟩
/-- Bytes as cells. -/
abbrev bys (ns : List Nat) : List Value := ns.map fun n : Nat => .int .u8 (n : Int)
theorem bys_at {ns : List Nat} {j : Nat} (h : j < ns.length) : (bys ns)[j]? = some (.int .u8 ((ns.getD j 0 : Nat) : Int)) := by simp [bys, List.getD, h]
theorem bys_ones : ∀ (ns : List Nat), OnesL (bys ns)
  | [] => trivial
  | _ :: ns => ⟨rfl, bys_ones ns⟩
theorem getD_lt {ns : List Nat} (h : ∀ n ∈ ns, n < 256) (j : Nat) : ns.getD j 0 < 256 := by
  by_cases hj : j < ns.length
  · simp only [List.getD, List.getElem?_eq_getElem hj, Option.getD_some]; exact h _ (List.getElem_mem hj)
  · simp [List.getD, hj]
/-- What holds while the graph is read. -/
structure GrI (al : List Int) (S i k : Nat) (M : List Int) (E : List Ed) : Prop where
  mb : ∀ x ∈ M, 0 ≤ x ∧ x < S
  mi : Inc M
  ml : ∀ x ∈ M, x < (i : Int) + 1
  mn : M.length ≤ S
  eb : ∀ e ∈ E, 0 ≤ e.1 ∧ e.1 < S ∧ e.2.1 ∈ al ∧ 0 ≤ e.2.2 ∧ e.2.2 < S
  ei : E.Pairwise fun x y => x.1 < y.1 ∨ (x.1 = y.1 ∧ x.2.1 < y.2.1)
  el : ∀ e ∈ E, e.1 < i ∨ (e.1 = i ∧ e.2.1 ∈ al.take k)
  en : E.length ≤ i * 5 + k
theorem inc_len {S : Nat} {M : List Int} (hb : ∀ x ∈ M, 0 ≤ x ∧ x < S) (hi : Inc M) : M.length ≤ S := pig S M (hi.imp (fun h => by omega)) hb
theorem GrI.mark {al : List Int} {S i : Nat} {M : List Int} {E : List Ed} (h : GrI al S i 0 M E) (hm : ∀ x ∈ M, x < (i : Int)) (hi : i < S) : GrI al S i 0 (M ++ [(i : Int)]) E := by
  have hmb : ∀ x ∈ M ++ [(i : Int)], 0 ≤ x ∧ x < S := fun x hx => by
    rcases List.mem_append.1 hx with hx | hx
    · exact h.mb x hx
    · simp only [List.mem_singleton] at hx; omega
  have hmi : Inc (M ++ [(i : Int)]) := by
    refine List.pairwise_append.2 ⟨h.mi, by simp, fun x hx y hy => ?_⟩
    simp only [List.mem_singleton] at hy
    subst hy; exact hm x hx
  refine ⟨hmb, hmi, fun x hx => ?_, inc_len hmb hmi, h.eb, h.ei, h.el, h.en⟩
  rcases List.mem_append.1 hx with hx | hx
  · have := hm x hx; omega
  · simp only [List.mem_singleton] at hx; omega
theorem GrI.skip {al : List Int} {S i k : Nat} {M : List Int} {E : List Ed} (h : GrI al S i k M E) (hk : k < al.length) : GrI al S i (k + 1) M E :=
  ⟨h.mb, h.mi, h.ml, h.mn, h.eb, h.ei, fun e he => (h.el e he).imp id (fun x => ⟨x.1, by rw [List.take_succ_eq_append_getElem hk]; exact List.mem_append_left _ x.2⟩), by have := h.en; omega⟩
theorem GrI.edge {al : List Int} {S i k : Nat} {M : List Int} {E : List Ed} (h : GrI al S i k M E) (hk : k < al.length) (ha : Inc al) (hi : i < S) {t : Int} (h0 : 0 ≤ t) (ht : t < S) : GrI al S i (k + 1) M (E ++ [((i : Int), cget al k, t)]) := by
  have hmem : cget al k ∈ al := cget_mem hk
  refine ⟨h.mb, h.mi, h.ml, h.mn, fun e he => ?_, ?_, fun e he => ?_, by have := h.en; simp; omega⟩
  · rcases List.mem_append.1 he with he | he
    · exact h.eb e he
    · simp only [List.mem_singleton] at he; subst he; exact ⟨by simp only []; omega, by simp only []; omega, hmem, h0, ht⟩
  · refine List.pairwise_append.2 ⟨h.ei, by simp, fun x hx y hy => ?_⟩
    simp only [List.mem_singleton] at hy
    subst hy
    rcases h.el x hx with h1 | ⟨h1, h2⟩
    · left; exact h1
    · right
      refine ⟨h1, ?_⟩
      simp only []
      have hp : Inc (al.take k ++ al.drop k) := by rw [List.take_append_drop]; exact ha
      refine (List.pairwise_append.1 hp).2.2 _ h2 _ ?_
      rw [List.drop_eq_getElem_cons hk, cget_eq hk]; exact List.mem_cons_self
  · rw [List.take_succ_eq_append_getElem hk, cget_eq hk]
    rcases List.mem_append.1 he with he | he
    · exact (h.el e he).imp id (fun x => ⟨x.1, List.mem_append_left _ x.2⟩)
    · simp only [List.mem_singleton] at he; subst he; exact .inr ⟨rfl, List.mem_append_right _ (by simp)⟩
theorem GrI.next {al : List Int} {S i k : Nat} {M : List Int} {E : List Ed} (h : GrI al S i k M E) (hk : k ≤ 5) : GrI al S (i + 1) 0 M E :=
  ⟨h.mb, h.mi, fun x hx => by have := h.ml x hx; omega, h.mn, h.eb, h.ei, fun e he => by rcases h.el e he with h1 | h1 <;> (left; omega), by have := h.en; omega⟩

set_option maxHeartbeats 2000000 in
theorem make3_ok {L : List Nat} {w : World} {v : Value} {al : List Int} {ns : List Nat} (h : Ints L w.heap v al) (hb : ∀ e ∈ al, 0 ≤ e ∧ e < 32) (hi : Inc al) (hn : ns.length = 27) (hns : ∀ n ∈ ns, n < 256) :
    Ret Tryd.prog 33 [v, .agg (bys ns).toArray] w fun r w' => Step [] w w' ∧ ∃ a : Aut, AutF w.heap.size w'.heap r a ∧ Okay a ∧ a.st ≤ 5 ∧ a.al = al := by
  have hall : al.length ≤ 32 := pig 32 al (hi.imp (fun h => by omega)) (fun x hx => by have := hb x hx; omega)
  refine Ret.of_W Tryd.func33 rfl Tryd.ntmps33 Tryd.results33 (by simp) ?_
  have g0 := bys_at (ns := ns) (j := 0) (by omega)
  have g1 := bys_at (ns := ns) (j := 1) (by omega)
  have l0 := getD_lt hns 0
  have l1 := getD_lt hns 1
  refine exE (ns.getD 0 0) fun s0 hs0 => ?_
  refine exE (ns.getD 1 0) fun m1 hm1 => ?_
  rw [hs0] at g0 l0
  rw [hm1] at g1 l1
  refine W_seq <| W_region (by rfl) ?_
  refine xl rfl <| o_box (us := bys ns) rfl fun b3 w1 hs1 hb3 hB3 => xl rfl <| o_alloc (us := [.slice none 0 0, .int .i64 0, .slice none 0 0, .slice none 0 0]) rfl fun b4 w2 hs2 hb4 hB4 => xe ?_
  have hs12 := hs1.trans hs2
  have hB32 := hB3.ext hs2
  have hz1 := hs1.size
  have hz2 := hs2.size
  have hl3 := hB3.lt
  have hl4 := hB4.lt
  refine W_seq <| W_seq <| W_region (by rfl) ?_
  refine x (r_fieldB rfl) <| x (r_loadB hB32 rfl g0) <| x (r_geq rfl rfl) <| xe ?_
  refine W_if rfl (fun h11 => ?_) (fun h11 => ?_)
  · refine W_seq <| W_region (by rfl) ?_
    refine x r_move <| xl rfl <| xf <| (emptyR_ok (h.ext hs12) (by omega)).mono ?_
    rintro r3 w3 ⟨hs3, vcl, rfl, hcl⟩
    have hclA := IntsO.ints (L := []) hcl (by omega) (by simp)
    refine xl rfl <| o_stores (us := [vcl, .int .i64 0, .slice none 0 0, .slice none 0 0]) (hB4.ext hs3) rfl rfl rfl rfl ⟨hclA.one, rfl, rfl, rfl, trivial⟩ fun w4 hs4 hB4' => xe ?_
    have hcl4 := own_step hcl hs4 (fun b hb => by have := (own_ge hcl b hb).1; simp; omega)
    refine W_ret ⟨[.agg #[vcl, .int .i64 0, .slice none 0 0, .slice none 0 0]], ⟨⟨_, rfl, run_loadVar_ag rfl (hB4'.at (L := []) (by simp)).cells⟩, trivial⟩, (hs12.trans hs3).then1 hs4 (by omega), ⟨al, 0, [], []⟩, ?_, ?_, (by decide : (0 : Int) ≤ 5), rfl⟩
    · exact ⟨vcl, _, _, rfl, fun L' hL' => ⟨IntsO.ints hcl4 (by show al.length ≤ _; omega) (fun b hb => by have := hL' b hb; omega), Arr.nil _ _ _, Arr.nil _ _ _⟩⟩
    · exact ⟨hb, hi, (by decide : (0 : Int) ≤ 0), (by decide : (0 : Int) ≤ 4096), by simp, by simp, by simp, by simp⟩
  refine W_skip ?_
  refine W_seq <| W_region (by rfl) ?_
  refine x r_move <| xl rfl <| xf <| (emptyR_ok (h.ext hs12) (by omega)).mono ?_
  rintro r5 w5 ⟨hs5, vcl, rfl, hcl⟩
  have hclA := IntsO.ints (L := []) hcl (by omega) (by simp)
  refine xl rfl <| o_alloc (us := [.slice none 0 0, .int .i64 0, .slice none 0 0, .slice none 0 0]) rfl fun b5 w6 hs6 hb5 hB5 =>
    xl rfl <| o_stores (us := [vcl, .int .i64 0, .slice none 0 0, .slice none 0 0]) hB5 rfl rfl rfl rfl ⟨hclA.one, rfl, rfl, rfl, trivial⟩ fun w7 hs7 hB7 => xe ?_
  have hs57 : Step [] w5 w7 := hs6.then1 hs7 hb5
  have hs27 := hs5.trans hs57
  have hz5 := hs5.size
  have hz57 := hs57.size
  have hl5 := hB7.lt
  refine exE (1 + s0 % 5) fun S hS => ?_
  have hS1 : 1 ≤ S ∧ S ≤ 5 := by omega
  have hSe : (1 : Int) + (s0 : Int) % 5 = (S : Int) := by omega
  refine W_seq <| W_region (by rfl) ?_
  refine x (r_fieldB rfl) <| x (r_loadB (hB32.ext hs27) rfl g0) <| x (r_rem (a := (s0 : Int)) (b := 5) rfl rfl (by omega) (by omega)) <| x (r_conv (k' := .i64) rfl ⟨by omega, by omega⟩) <| x (r_add rfl rfl ⟨by omega, by omega⟩) <| x (r_fieldB rfl) <|
    xl rfl <| o_store (u := .int .i64 S) hB7 rfl (congrArg (Value.int .i64) hSe) (by simp) rfl fun w8 hs8 hB8 => xe ?_
  have hz8 := hs8.size
  have hs28 : Step [b5] w2 w8 := (hs27.any (L := [b5])).trans' hs8
  have hW8 : Step [] w w8 := (hs12.trans hs27).then1 hs8 (by omega)
  have hal8 : Ints [b5] w8.heap v al := (h.up (L' := [b5]) (fun b hb => .inr (by simp at hb; omega))).ext hW8
  have hc8 : IntsO 3 w2.heap.size w8 vcl al := own_step (own_ext hcl hs57) hs8 (fun b hb => by have := own_lt hcl b hb; simp; omega)
  have hB38 := (hB32.ext hs27).step hs8 (by simp; omega)
  have hB48 := (hB4.ext hs27).step hs8 (by simp; omega)
  have hl8 : b5 < w8.heap.size := by omega
  have n3 : b3 ∉ [b5] := by simp; omega
  have n4 : b4 ∉ [b5] := by simp; omega
  refine W_seq <| W_seq <| W_region (by rfl) ?_
  refine x r_assign <| xe ?_
  refine W_block <| W_loop (α := Nat × Value × Value × List Int × List Ed) [(6, 8), (22, 76)] (fun z => [(6, .int .i64 z.1)])
    (fun z w' => z.1 ≤ S ∧ CrI w8 b5 vcl S z.2.1 z.2.2.1 z.2.2.2.1 z.2.2.2.2 w' ∧ GrI al S z.1 0 z.2.2.2.1 z.2.2.2.2 ∧ ∀ x ∈ z.2.2.2.1, x < (z.1 : Int)) (fun z => S - z.1) (by rfl) (0, .slice none 0 0, .slice none 0 0, [], []) ⟨rfl, trivial⟩
    ⟨Nat.zero_le _, ⟨Step.refl _ _, hB8, own_nil _ _ _ _, own_nil _ _ _ _, Dj.nil' _⟩, ⟨by simp, by simp, by simp, by simp, by simp, by simp, by simp, by simp⟩, by simp⟩ ?_
  rintro ⟨i, v1, v2, M, E⟩ g9 w9 ⟨hi9, hI, hG, hM⟩
  simp only [] at hi9 hI hG hM
  have hmn := hG.mn
  have hen := hG.en
  refine W_seq <| W_seq <| W_region (by rfl) ?_
  refine x r_move <| x (r_fieldB rfl) <| x (r_loadB hI.B rfl rfl) <| x (r_lss rfl rfl) <| xe ?_
  refine W_ifn rfl (fun h25 => ?_) (fun h25 => ?_)
  · have hie : i = S := by omega
    refine W_exit ?_
    have hmA := IntsO.ints (L := []) hI.m (by omega) (by simp)
    have heA := EdsO.eds (L := []) hI.e (by omega) (by simp)
    have hc9 : IntsO 3 w2.heap.size w9 vcl al := own_step hc8 hI.st (fun b hb => by have := own_lt hcl b hb; simp; omega)
    have hA9 : AutA [] w9.heap vcl v1 v2 ⟨al, (S : Int), M, E⟩ := ⟨IntsO.ints hc9 (by show al.length ≤ _; omega) (by simp), hmA, heA⟩
    have hok : Okay ⟨al, (S : Int), M, E⟩ := ⟨hb, hi, by simp only []; omega, by simp only []; omega, hG.mb, hG.mi, hG.eb, hG.ei⟩
    have hcan := canR_ok hok
    have hW9 : Step [] w w9 := hW8.then1 hI.st (by omega)
    have hB49 := hB48.step hI.st n4
    have hz9 := hI.st.size
    refine W_seq <| W_region (by rfl) ?_
    refine x (r_loadsB hI.B rfl rfl) <| xl rfl <| xf <| (canonicalR_ok (a := ⟨al, (S : Int), M, E⟩) hA9 hok).mono ?_
    rintro vr w10 ⟨hs10, hF⟩
    obtain ⟨us, hva, husl, hus⟩ := AutF_shape hF
    refine xl rfl <| o_stores (us := us) (hB49.ext hs10) rfl hva husl rfl hus fun w11 hs11 hB11 => xe ?_
    have hzW := hW9.size
    refine W_ret ⟨[.agg us.toArray], ⟨⟨_, rfl, run_loadVar_ag husl (hB11.at (L := []) (by simp)).cells⟩, trivial⟩, (hW9.trans hs10).then1 hs11 (by omega), canR ⟨al, (S : Int), M, E⟩, ?_, hcan.1, ?_, hcan.2.1⟩
    · show AutF _ _ (.agg us.toArray) _
      rw [← hva]
      exact (AutF_st1 hF (by omega) hs11).mono hzW
    · have := hcan.2.2
      simp only [] at this
      omega
  have hlt : i < S := by omega
  refine W_skip ?_
  refine W_seq <| W_block <| W_cut (α := Value × List Int) [(28, 39)] (fun z => []) (fun z w' => CrI w8 b5 vcl S z.1 v2 z.2 E w' ∧ GrI al S i 0 z.2 E) (by rfl) ?_ ?_
  · have hdv : m1 / 2 ^ i < 256 := Nat.lt_of_le_of_lt (Nat.div_le_self _ _) l1
    refine W_seq <| W_region (by rfl) ?_
    refine x (r_fieldB rfl) <| x (r_loadB (hB38.step hI.st n3) rfl g1) <| x r_move <| x (r_shr (n := i) rfl rfl (by show i ≤ 8; omega)) <| x (r_and8 (a := m1 / 2 ^ i) (b := 1) (congrArg (Value.int .u8) (shr_nat m1 i)) rfl hdv (by decide)) <| x (r_eql rfl rfl) <| xe ?_
    refine W_ifn rfl (fun h33 => ?_) (fun h33 => ?_)
    · refine W_skip ?_
      exact ⟨(v1, M), trivial, hI, hG⟩
    refine W_region (by rfl) ?_
    refine x (r_fieldB rfl) <| x (r_loadB hI.B rfl rfl) <| x r_move <| xl rfl <| o_lits (us := [[.int .i64 i]]) rfl rfl (by decide) (by simp) ⟨rfl, rfl, trivial⟩ fun b37 w12 hs12' hb37 hB37 => ?_
    have hI12 := hI.ext hs12'
    refine xl rfl <| o_app (news := [.int .i64 i]) (L := []) hI12.m rfl rfl rfl (hB37.at (by simp)) (by simp [Value.oneCell']) (by omega) hI12.st.size fun v13 w13 ho13 hs13 hn13 => ?_
    have ho13' : IntsO 3 w8.heap.size w13 v13 (M ++ [(i : Int)]) := IntsO.snoc ho13
    refine x (r_fieldB rfl) <| xl rfl <| o_store (hI12.B.step hs13 (own_notin hI12.m hl8)) rfl rfl (by simp) (IntsO.ints (L := []) ho13' (by simp; omega) (by simp)).one fun w14 hs14 hB14 =>
      xe ?_
    exact ⟨(v13, M ++ [(i : Int)]), trivial, hI12.setM hl8 hs13 ho13' hn13 hs14 hB14, hG.mark hM hlt⟩
  rintro ⟨v3, M3⟩ g15 w15 ⟨hI15, hG15⟩
  simp only [] at hI15 hG15
  refine W_seq <| W_region (by rfl) ?_
  refine x r_assign <| xe ?_
  refine W_block <| W_loop (α := Nat × Value × List Ed) [(7, 8), (40, 76)] (fun z => [(7, .int .i64 z.1)])
    (fun z w' => z.1 ≤ al.length ∧ z.1 ≤ 5 ∧ CrI w8 b5 vcl S v3 z.2.1 M3 z.2.2 w' ∧ GrI al S i z.1 M3 z.2.2) (fun z => 5 - z.1) (by rfl) (0, v2, E) ⟨rfl, trivial⟩
    ⟨Nat.zero_le _, Nat.zero_le _, hI15, hG15⟩ ?_
  rintro ⟨k, vd, F⟩ g16 w16 ⟨hk, hk5, hI16, hG16⟩
  simp only [] at hk hk5 hI16 hG16
  have hal16 := hal8.st hI16.st
  have hfn := hG16.en
  refine W_seq <| W_cut (α := Unit) [(40, 47)] (fun z => [(47, .bool (decide (k < al.length ∧ k < 5)))]) (fun z w' => w' = w16) (by rfl) ?_ ?_
  · refine W_region (by rfl) ?_
    refine x r_move <| x r_move <| x (r_lenA hal16 rfl) <| xb (r_lss rfl rfl) (fun h43 => ?_) (fun h43 => ?_)
    · refine x r_move <| x r_move <| x (r_lss rfl rfl) <| x (r_pick rfl) <| xe ?_
      refine ⟨(), ⟨congrArg Value.bool ?_, trivial⟩, rfl⟩
      exact decide_eq_decide.2 ⟨fun e => ⟨by omega, by omega⟩, fun e => by omega⟩
    refine x r_move <| xs rfl <| xs rfl <| x (r_pick rfl) <| xe ?_
    exact ⟨(), ⟨congrArg Value.bool (decide_eq_false (fun e => h43 (by omega))).symm, trivial⟩, rfl⟩
  rintro _ g17 w17 rfl
  refine W_ifn rfl (fun h47 => ?_) (fun h47 => ?_)
  · refine W_exit ?_
    refine W_region (by rfl) ?_
    refine x r_move <| x (r_add rfl rfl ⟨by omega, by omega⟩) <| x r_assign <| xe ?_
    exact ⟨(i + 1, v3, vd, M3, F), by simp only []; omega, ⟨rfl, trivial⟩, hlt, hI16, hG16.next hk5, fun x hx => by have := hG16.ml x hx; simp only []; omega⟩
  have hk1 : k < al.length := h47.1
  have hk2 : k < 5 := h47.2
  have gj := bys_at (ns := ns) (j := 0 + 2 + i * 5 + k * 1) (by omega)
  have lj := getD_lt hns (0 + 2 + i * 5 + k * 1)
  refine exE (ns.getD (0 + 2 + i * 5 + k * 1) 0) fun q hq => ?_
  rw [hq] at gj lj
  have hB316 := hB38.step hI16.st n3
  have hmod : 0 ≤ (q : Int) % ((S : Int) + 2) := Int.emod_nonneg _ (by omega)
  have hmod2 : (q : Int) % ((S : Int) + 2) < (S : Int) + 2 := Int.emod_lt_of_pos _ (by omega)
  refine W_skip ?_
  refine W_seq <| W_block <| W_seq <| W_draw (Step [] w17) [(0, true), (1, true), (2, true), (3, true), (4, true), (5, true), (6, true), (7, true), (8, true), (9, true), (10, true), (11, true)] Tryd.mixed (by rfl) (by kernel_rfl) (Step.drew _ _) ?_
  refine p (fun _ => r_move) <| p (fun _ => r_move) <| p (fun _ => r_fieldB rfl) <| p (fun _ => r_indexR (i := i) rfl rfl (by omega)) <| p (fun _ => r_indexR (i := k) rfl rfl hk2) <| pq (fun _ hc => r_loadB (hB316.ext hc) rfl gj) <|
    p (fun _ => r_conv (k' := .i64) rfl ⟨by omega, by omega⟩) <| p (fun _ => r_fieldB rfl) <| pq (fun _ hc => r_loadB (hI16.B.ext hc) rfl rfl) <| p (fun _ => r_add rfl rfl ⟨by omega, by omega⟩) <|
    p (fun _ => r_rem (a := (q : Int)) (b := (S : Int) + 2) rfl rfl (by omega) (by omega)) <| p (fun _ => r_assign) <| pe ?_
  have hI17 := hI16.ext (Step.drew [] w17)
  refine exE ((q : Int) % ((S : Int) + 2)) fun t ht => ?_
  have ht0 : 0 ≤ t := by omega
  refine W_seq <| W_region (by rfl) ?_
  refine x r_move <| x (r_fieldB rfl) <| x (r_loadB hI17.B rfl rfl) <| x (r_lss rfl rfl) <| xe ?_
  refine W_ifn rfl (fun h64 => ?_) (fun h64 => ?_)
  · refine W_skip ?_
    refine W_region (by rfl) ?_
    refine x r_move <| x (r_add rfl rfl ⟨by omega, by omega⟩) <| x r_assign <| xe ?_
    exact ⟨(k + 1, vd, F), by simp only []; omega, ⟨rfl, trivial⟩, hk1, hk2, hI17, hG16.skip hk1⟩
  have hvd := own_ge hI17.e
  have haD : Ints (b5 :: ob vd) { w17 with drawn := w17.drawn + 1 }.heap v al := ((hal8.up (L' := b5 :: ob vd) (fun b hb => by
    rcases List.mem_cons.1 hb with rfl | hb
    · exact .inl (by simp)
    · exact .inr (hvd b hb).1)).step hI17.st (by simp))
  have nb5 := own_notin hI17.e hl8
  refine W_draw (Step (ob vd) { w17 with drawn := w17.drawn + 1 }) [(0, true), (1, true), (2, true), (3, true), (4, true), (5, true), (6, true), (7, true), (8, true), (9, false), (10, false), (11, true), (12, false)] Tryd.mixed (by rfl) (by kernel_rfl) (Step.drew _ _) ?_
  refine p (fun _ => r_fieldB rfl) <| pq (fun _ hc => r_loadB (hI17.B.step hc nb5) rfl rfl) <| p (fun _ => r_move) <| p (fun _ => r_move) <| p (fun _ => r_move) <|
    pic (i := k) rfl haD rfl rfl hk1 fun a70 h70 => pq (fun _ hc => r_loadA (h70.step hc (fun b hb => List.mem_cons_of_mem _ hb)) rfl) <| p (fun _ => r_move) <| p (fun _ => r_build ⟨rfl, rfl, rfl, trivial⟩) <|
    pk <| o_lits (us := [edCells ((i : Int), cget al k, (q : Int) % ((S : Int) + 2))]) rfl rfl (by decide) (by exact (by decide : 1 * 3 ≤ 1000000)) ⟨rfl, rfl, trivial⟩ fun b74 w18 hs18 hb74 hB74 => ?_
  have hs1718 := (Step.drew [] { w17 with drawn := w17.drawn + 1 }).trans hs18
  have hI18 := hI17.ext hs1718
  refine ⟨hs1718.any, ?_⟩
  refine pk <| o_app (news := edCells ((i : Int), cget al k, (q : Int) % ((S : Int) + 2))) (L := []) hI18.e rfl rfl rfl (hB74.at (by simp)) (fun y hy => by simp only [edCells, List.mem_cons, List.not_mem_nil, or_false] at hy; rcases hy with rfl | rfl | rfl <;> rfl) (by omega) hI18.st.size fun v19 w19 ho19 hs19 hn19 => ⟨(hs1718.any (L := ob vd)).trans' hs19, ?_⟩
  have ho19' : EdsO 93 w8.heap.size w19 v19 (F ++ [((i : Int), cget al k, (q : Int) % ((S : Int) + 2))]) := EdsO.snoc ho19
  refine p (fun _ => r_fieldB rfl) <| pkl (hl := by kernel_rfl) <| o_store (hI18.B.step hs19 (own_notin hI18.e hl8)) rfl rfl (by simp) (EdsO.eds (L := []) ho19' (by simp; omega) (by simp)).one fun w20 hs20 hB20 => pe ?_
  have hI20 := hI18.setE hl8 hs19 ho19' hn19 hs20 hB20
  refine W_region (by rfl) ?_
  refine x r_move <| x (r_add rfl rfl ⟨by omega, by omega⟩) <| x r_assign <| xe ?_
  exact ⟨(k + 1, v19, F ++ [((i : Int), cget al k, (q : Int) % ((S : Int) + 2))]), by simp only []; omega, ⟨rfl, trivial⟩, hk1, hk2, hI20, hG16.edge hk1 hi hlt hmod (by omega)⟩
end Go.Proofs.YtfhgnlkdcdlblaaDoor

/- Contract: overseerlaw26's Make: a plant and a supervisor that fit. -/
namespace Go.Lg
section
variable {P : Program} {f : Fr} {w : World} {d : Option Nat} {ty : Nat} {ps : String} {af : Array Edge} {gd : Option (Nat × Bool)}
theorem r_loadsBO {t sz : Nat} [Ag P t sz] {x : Operand} {b o T : Nat} {cs us : List Value} (h : Blk w.heap b T cs) (hx : ev f x = .pointer (some ⟨b, o, none⟩)) (hl : us.length = sz) (hsub : ∀ j u, us[j]? = some u → cs[o + j]? = some u) :
    (execOp (ev f) ⟨d, .load t x, ty, ps, af, gd⟩).run P w = .ok (.value (.agg us.toArray)) w := by
  refine r_loads hx hl fun j u hu => ?_
  rw [cel_world, lit_add', h.cell]
  exact hsub j u hu
end
end Go.Lg
namespace Go.Proofs.YtfhgnlkdcdlblaaDoor
open Go.Lg

theorem bys_sub {ns : List Nat} {o n : Nat} : ∀ j u, (bys ((ns.drop o).take n))[j]? = some u → (bys ns)[o + j]? = some u := by
  intro j u h
  simp only [bys, List.getElem?_map, List.getElem?_take, List.getElem?_drop] at h ⊢
  split at h
  · exact h
  · cases h
theorem bys_all {ns : List Nat} (h : ∀ n ∈ ns, n < 256) (o n : Nat) : ∀ m ∈ (ns.drop o).take n, m < 256 := fun m hm => h m (List.mem_of_mem_drop (List.mem_of_mem_take hm))
/-- The plant and the supervisor of a problem. -/
structure Pb (aP aS : Aut) : Prop where
  p : Okay aP
  s : Okay aS
  p5 : aP.st ≤ 5
  s5 : aS.st ≤ 5
  sub : ∀ x ∈ aS.al, x ∈ aP.al
theorem setK_bd (m k : Nat) : ∀ e ∈ setK m k, 0 ≤ e ∧ e < k := by
  intro e he
  simp only [setK, List.mem_map, List.mem_filter, List.mem_range'_1] at he
  obtain ⟨i, ⟨hi, _⟩, rfl⟩ := he
  omega
theorem mrg_inc (keep : Bool → Bool → Bool) : ∀ (n : Nat) (a b : List Int), a.length + b.length ≤ n → Inc a → Inc b → Inc (mrg keep a b) := by
  intro n
  induction n with
  | zero =>
    intro a b h _ _
    have ha : a = [] := List.eq_nil_of_length_eq_zero (by omega)
    have hb : b = [] := List.eq_nil_of_length_eq_zero (by omega)
    subst ha hb; rw [mrg_nil]; exact List.Pairwise.nil
  | succ n ih =>
    intro a b hn ia ib
    by_cases h : a = [] ∧ b = []
    · obtain ⟨rfl, rfl⟩ := h; rw [mrg_nil]; exact List.Pairwise.nil
    · have hlt := inA_tl h
      have itl : ∀ (c : Bool) (l : List Int), Inc l → Inc (tl c l) := fun c l hl => by
        cases c
        · exact hl
        · cases l with
          | nil => exact hl
          | cons y l => exact hl.tail
      have ih' := ih (tl (inA a b) a) (tl (inA b a) b) (by omega) (itl _ _ ia) (itl _ _ ib)
      rw [mrg_step keep h]
      cases keep (inA a b) (inA b a) with
      | false => simpa using ih'
      | true =>
        simp only [cond_true, List.singleton_append]
        refine List.pairwise_cons.2 ⟨fun x hx => ?_, ih'⟩
        have hm := (mem_mrg (itl _ _ ia) (itl _ _ ib) x).1 hx
        cases a with
        | nil =>
          cases b with
          | nil => exact absurd ⟨rfl, rfl⟩ h
          | cons y b =>
            simp only [inA, tl, cond_true, cond_false, List.tail_cons, List.not_mem_nil, false_or, Go.Proofs.YtfhgnlkdcdlblaaDoor.hx, List.headD_cons] at hm ⊢
            exact ib.lt_of hm.1
        | cons u a =>
          cases b with
          | nil =>
            simp only [inA, tl, cond_true, cond_false, List.tail_cons, List.not_mem_nil, or_false, Go.Proofs.YtfhgnlkdcdlblaaDoor.hx, List.headD_cons] at hm ⊢
            exact ia.lt_of hm.1
          | cons y b =>
            rcases Int.lt_trichotomy u y with h1 | h1 | h1
            · have e1 : decide (u ≤ y) = true := decide_eq_true (by omega)
              have e2 : decide (y ≤ u) = false := decide_eq_false (by omega)
              simp only [inA, tl, e1, e2, cond_true, cond_false, List.tail_cons, Go.Proofs.YtfhgnlkdcdlblaaDoor.hx, List.headD_cons] at hm ⊢
              rcases hm.1 with h2 | h2
              · exact ia.lt_of h2
              · rcases List.mem_cons.1 h2 with h2 | h2
                · omega
                · have := ib.lt_of h2; omega
            · have e1 : decide (u ≤ y) = true := decide_eq_true (by omega)
              have e2 : decide (y ≤ u) = true := decide_eq_true (by omega)
              simp only [inA, tl, e1, e2, cond_true, List.tail_cons, Go.Proofs.YtfhgnlkdcdlblaaDoor.hx, List.headD_cons] at hm ⊢
              rcases hm.1 with h2 | h2
              · have := ia.lt_of h2; omega
              · have := ib.lt_of h2; omega
            · have e1 : decide (u ≤ y) = false := decide_eq_false (by omega)
              have e2 : decide (y ≤ u) = true := decide_eq_true (by omega)
              simp only [inA, tl, e1, e2, cond_true, cond_false, List.tail_cons, Go.Proofs.YtfhgnlkdcdlblaaDoor.hx, List.headD_cons] at hm ⊢
              rcases hm.1 with h2 | h2
              · rcases List.mem_cons.1 h2 with h2 | h2
                · omega
                · have := ia.lt_of h2; omega
              · exact ib.lt_of h2

set_option maxHeartbeats 2000000 in
theorem make26_ok {w : World} {ns : List Nat} (hn : ns.length = 57) (hns : ∀ n ∈ ns, n < 256) :
    Ret Tryd.prog 10 [.agg (bys ns).toArray] w fun r w' => Step [] w w' ∧ ∃ vp vs vu aP aS u, r = .tuple #[vp, vs, vu] ∧ AutF w.heap.size w'.heap vp aP ∧ AutF w.heap.size w'.heap vs aS ∧ Pb aP aS ∧
      IntsO 3 w.heap.size w' vu (setK u 5) := by
  refine Ret.of_W Tryd.func10 rfl Tryd.ntmps10 Tryd.results10 (by simp) ?_
  have g0 := bys_at (ns := ns) (j := 0) (by omega)
  have g1 := bys_at (ns := ns) (j := 28) (by omega)
  have g2 := bys_at (ns := ns) (j := 56) (by omega)
  have l0 := getD_lt hns 0
  have l1 := getD_lt hns 28
  have l2 := getD_lt hns 56
  refine exE (ns.getD 0 0) fun m0 hm0 => ?_
  refine exE (ns.getD 28 0) fun m1 hm1 => ?_
  refine exE (ns.getD 56 0) fun m2 hm2 => ?_
  rw [hm0] at g0 l0
  rw [hm1] at g1 l1
  rw [hm2] at g2 l2
  have q0 := setK_len m0 5
  have q1 := setK_len m1 5
  have q2 := setK_len m2 5
  have d0 : ((ns.drop 1).take 27).length = 27 := by simp; omega
  have d1 : ((ns.drop 29).take 27).length = 27 := by simp; omega
  refine W_seq <| W_region (by rfl) ?_
  refine xl rfl <| o_box (us := bys ns) rfl fun b1 w1 hs1 hb1 hB1 => xl rfl <| o_alloc (us := [.slice none 0 0, .int .i64 0, .slice none 0 0, .slice none 0 0]) rfl fun b2 w2 hs2 hb2 hB2 =>
    xl rfl <| o_alloc (us := [.slice none 0 0, .int .i64 0, .slice none 0 0, .slice none 0 0]) rfl fun b3 w3 hs3 hb3 hB3 => x r_assign <| xe ?_
  have hs13 := (hs1.trans hs2).trans hs3
  have hB13 := (hB1.ext hs2).ext hs3
  have hB23 := hB2.ext hs3
  have hz1 := hs1.size
  have hz2 := hs2.size
  have hz3 := hs3.size
  have hl1 := hB1.lt
  have hl2 := hB2.lt
  have hl3 := hB3.lt
  refine W_seq <| W_draw (Step [] w3) [(0, true), (1, true), (2, true), (4, true), (5, true), (6, true), (3, false), (7, false), (8, false)] Tryd.mixed (by rfl) (by kernel_rfl) (Step.drew _ _) ?_
  refine p (fun _ => r_fieldB rfl) <| p (fun _ => r_fieldB rfl) <| pq (fun _ hc => r_loadB (hB13.ext hc) rfl g0) <| p (fun _ => r_fieldB rfl) <|
    p (fun _ => r_fieldB rfl) <| pq (fun _ hc => r_loadsBO (us := bys ((ns.drop 1).take 27)) (hB13.ext hc) rfl (by simp [bys]; omega) bys_sub) <| pk <| xf <| (events3_ok m0 l0 _).mono ?_
  rintro v4 w4 ⟨hs4, ho4⟩
  have hs34 := (Step.drew [] w3).trans hs4
  have hz4 := hs34.size
  refine ⟨hs34, pk <| xf <| (make3_ok (IntsO.ints (L := []) ho4 (by omega) (by simp)) (fun e he => by have := setK_bd m0 5 e he; omega) (setK_inc m0 5) d0 (bys_all hns 1 27)).mono ?_⟩
  rintro vp w5 ⟨hs5, aP, hF5, hkP, hP5, haP⟩
  have hs35 := hs34.trans hs5
  have hz5 := hs5.size
  obtain ⟨pva, pvm, pve, rfl, hPA⟩ := hF5
  have hP0 := hPA [] (by simp)
  refine ⟨hs35, pkl (hl := by kernel_rfl) <| o_stores (us := [pva, .int .i64 aP.st, pvm, pve]) (hB23.ext hs35) rfl rfl rfl rfl ⟨hP0.al.one, rfl, hP0.mr.one, hP0.ed.one, trivial⟩ fun w6 hs6 hB26 => pe ?_⟩
  have hz6 := hs6.size
  have hF6 : AutF w4.heap.size w6.heap (.agg #[pva, .int .i64 aP.st, pvm, pve]) aP := AutF_st1 ⟨pva, pvm, pve, rfl, hPA⟩ (by omega) hs6
  have hB16 := (hB13.ext hs35).step hs6 (by simp; omega)
  have hB36 := (hB3.ext hs35).step hs6 (by simp; omega)
  have hW6 : Step [] w w6 := (hs13.trans hs35).then1 hs6 (by omega)
  have hPA6 : ∀ L : List Nat, (∀ b ∈ L, b < w4.heap.size) → AutA L w6.heap pva pvm pve aP := fun L hL => by
    obtain ⟨x1, x2, x3, e, h⟩ := hF6
    have e' := e
    simp only [Value.agg.injEq, Array.mk.injEq, List.cons.injEq, and_true, true_and] at e'
    obtain ⟨rfl, rfl, rfl⟩ := e'
    exact h L hL
  have hPA60 := hPA6 [] (by simp)
  refine W_seq <| W_draw (Step [] w6) [(0, true), (1, true), (2, true), (4, true), (5, true), (7, true), (8, true), (9, true), (3, false), (6, false), (10, false), (11, false)] Tryd.mixed (by rfl) (by kernel_rfl) (Step.drew _ _) ?_
  refine p (fun _ => r_fieldB rfl) <| p (fun _ => r_fieldB rfl) <| pq (fun _ hc => r_loadB (hB16.ext hc) rfl g1) <| p (fun _ => r_fieldB rfl) <|
    pq (fun _ hc => r_loadB (hB26.ext hc) rfl rfl) <| p (fun _ => r_fieldB rfl) <| p (fun _ => r_fieldB rfl) <| pq (fun _ hc => r_loadsBO (us := bys ((ns.drop 29).take 27)) (hB16.ext hc) rfl (by simp [bys]; omega) bys_sub) <|
    pk <| xf <| (events3_ok m1 l1 _).mono ?_
  rintro v7 w7 ⟨hs7, ho7⟩
  have hs67 := (Step.drew [] w6).trans hs7
  have halP := hkP.al_le
  refine ⟨hs67, pk <| xf <| (Intersect_ok (IntsO.ints (L := []) ho7 (by omega) (by simp)) (hPA60.al.ext hs67) (by omega)).mono ?_⟩
  rintro v8 w8 ⟨hs8, ho8⟩
  have hs68 := hs67.trans hs8
  have qm := mrg_len (· && ·) (setK m1 5) aP.al
  have hmi := mrg_inc (· && ·) _ (setK m1 5) aP.al (Nat.le_refl _) (setK_inc m1 5) hkP.ali
  have hmm := fun x => mem_mrg (keep := (· && ·)) (setK_inc m1 5) hkP.ali x
  refine ⟨hs68, pk <| xf <| (make3_ok (IntsO.ints (L := []) ho8 (by omega) (by simp)) (fun e he => by
    have h1 := (hmm e).1 he
    have h2 : e ∈ aP.al := by have := h1.2; simp at this; exact this.2
    exact hkP.al e h2) hmi d1 (bys_all hns 29 27)).mono ?_⟩
  rintro vs w9 ⟨hs9, aS, hF9, hkS, hS5, haS⟩
  have hs69 := hs68.trans hs9
  have hz68 := hs68.size
  have hz9 := hs9.size
  obtain ⟨sva, svm, sve, rfl, hSA⟩ := hF9
  have hS0 := hSA [] (by simp)
  refine ⟨hs69, pkl (hl := by kernel_rfl) <| o_stores (us := [sva, .int .i64 aS.st, svm, sve]) (hB36.ext hs69) rfl rfl rfl rfl ⟨hS0.al.one, rfl, hS0.mr.one, hS0.ed.one, trivial⟩ fun w10 hs10 hB310 => pe ?_⟩
  have hz10 := hs10.size
  have hF10 : AutF w8.heap.size w10.heap (.agg #[sva, .int .i64 aS.st, svm, sve]) aS := AutF_st1 ⟨sva, svm, sve, rfl, hSA⟩ (by omega) hs10
  have hFP10 : AutF w4.heap.size w10.heap (.agg #[pva, .int .i64 aP.st, pvm, pve]) aP := AutF_st1 (hF6.ext hs69) (by omega) hs10
  have hB110 := (hB16.ext hs69).step hs10 (by simp; omega)
  have hB210 := (hB26.ext hs69).step hs10 (by simp; omega)
  have hW10 : Step [] w w10 := (hW6.trans hs69).then1 hs10 (by omega)
  refine W_seq <| W_draw (fun w' => Step [b2, b3] w10 w' ∧ Blk w'.heap b2 35 [pva, .int .i64 aP.st, pvm, pve] ∧ Blk w'.heap b3 35 [sva, .int .i64 aS.st, svm, sve]) [(0, true), (1, true), (2, true), (3, true), (4, false), (5, false), (6, false), (7, true)] Tryd.mixed (by rfl) (by kernel_rfl)
    ⟨Step.drew _ _, hB210.ext (Step.drew _ _), hB310.ext (Step.drew _ _)⟩ ?_
  refine pq (fun _ hc => r_loadsB hc.2.1 rfl rfl) <| pq (fun _ hc => r_loadsB hc.2.2 rfl rfl) <| p (fun _ => r_fieldB rfl) <|
    pq (fun _ hc => r_loadB (hB110.step hc.1 (by simp; omega)) rfl g2) <| pk <| xf <| (events3_ok m2 l2 _).mono ?_
  rintro vu w11 ⟨hs11, ho11⟩
  have hs1011 := (Step.drew [] w10).trans hs11
  have hB211 := hB210.ext hs1011
  have hB311 := hB310.ext hs1011
  have hz11 := hs1011.size
  refine ⟨⟨hs1011.any, hB211, hB311⟩, pk <| o_stores (us := [pva, .int .i64 aP.st, pvm, pve]) hB211 rfl rfl rfl rfl ⟨hP0.al.one, rfl, hP0.mr.one, hP0.ed.one, trivial⟩ fun w12 hs12 hB212 => ?_⟩
  have hB312 := hB311.step hs12 (by simp; omega)
  refine ⟨⟨(hs1011.any (L := [b2, b3])).trans' (hs12.mono (by simp)), hB212, hB312⟩, pk <| o_stores (us := [sva, .int .i64 aS.st, svm, sve]) hB312 rfl rfl rfl rfl ⟨hS0.al.one, rfl, hS0.mr.one, hS0.ed.one, trivial⟩ fun w13 hs13' hB313 => ?_⟩
  have hB213 := hB212.step hs13' (by simp; omega)
  refine ⟨⟨((hs1011.any (L := [b2, b3])).trans' (hs12.mono (by simp))).trans' (hs13'.mono (by simp)), hB213, hB313⟩, p (fun _ => r_assign) <| pe ?_⟩
  have hWF : Step [] w w13 := ((hW10.trans hs1011).then1 hs12 (by omega)).then1 hs13' (by omega)
  have ho13 : IntsO 3 w10.heap.size w13 vu (setK m2 5) := own_step (own_step ho11 hs12 (fun b hb => by have h' : w10.heap.size ≤ b := (own_ge ho11 b hb).1; simp; omega)) hs13' (fun b hb => by have h' : w10.heap.size ≤ b := (own_ge ho11 b hb).1; simp; omega)
  have hFP13 := AutF_st1 (AutF_st1 (hFP10.ext hs1011) (by omega) hs12) (by omega : b3 < w4.heap.size) hs13'
  have hFS13 := AutF_st1 (AutF_st1 (hF10.ext hs1011) (by omega) hs12) (by omega : b3 < w8.heap.size) hs13'
  refine W_ret ⟨[.agg #[pva, .int .i64 aP.st, pvm, pve], .agg #[sva, .int .i64 aS.st, svm, sve], vu], ⟨⟨_, rfl, run_loadVar_ag rfl (hB213.at (L := []) (by simp)).cells⟩, ⟨_, rfl, run_loadVar_ag rfl (hB313.at (L := []) (by simp)).cells⟩, rfl, trivial⟩, hWF,
    _, _, vu, aP, aS, m2, rfl, hFP13.mono (by omega), hFS13.mono (by omega), ⟨hkP, hkS, hP5, hS5, fun x hx => ?_⟩, own_base ho13 (by omega)⟩
  rw [haS] at hx
  have h1 := (hmm x).1 hx
  have := h1.2
  simp at this
  exact this.2
end Go.Proofs.YtfhgnlkdcdlblaaDoor
