/- Contracts: supervisor's merger: merge. -/
import Derived.Test.YtfhgnlkdcdlblaaDoorCn
import Derived.Test.YtfhgnlkdcdlblaaDoorLx
namespace Go.Proofs.YtfhgnlkdcdlblaaDoor
open Go.Lg

/-- The merger in memory. -/
structure Mg (N bm bs : Nat) (s : Aut) (vl : Value) (cs : List CV) (vc : Value) (cl : List Int) (w : World) : Prop where
  B : Blk w.heap bm 133 [vc, vl, .map (some bs)]
  c : IntsO 3 N w vc cl
  l : Ctls (ob vc) w.heap vl cs
  m : MapB kPair w.heap bs (edMap [] s.ed)
  nm : bm ∉ ob vc
  ns : bs ∉ ob vc
theorem Mg.ext {N bm bs : Nat} {s : Aut} {vl : Value} {cs : List CV} {vc : Value} {cl : List Int} {w w' : World} (h : Mg N bm bs s vl cs vc cl w) (hs : Step [] w w') : Mg N bm bs s vl cs vc cl w' :=
  ⟨h.B.ext hs, own_ext h.c hs, h.l.ext hs, h.m.ext hs, h.nm, h.ns⟩
theorem Mg.st {N bm bs : Nat} {s : Aut} {vl : Value} {cs : List CV} {vc : Value} {cl cl' : List Int} {w w' : World} (h : Mg N bm bs s vl cs vc cl w) (hs : Step (ob vc) w w') (hc : IntsO 3 N w' vc cl') : Mg N bm bs s vl cs vc cl' w' :=
  ⟨h.B.step hs h.nm, hc, h.l.st hs, h.m.step hs h.ns, h.nm, h.ns⟩
def mgF (a b c : Int) : Int := if c = a then b else c
theorem mg_set {cl : List Int} {k : Nat} {a b : Int} (h : k < cl.length) : ((cl.take k).map (mgF a b) ++ cl.drop k).set k (mgF a b (cget cl k)) = (cl.take (k + 1)).map (mgF a b) ++ cl.drop (k + 1) := by
  have h1 : ((cl.take k).map (mgF a b)).length = k := by simp; omega
  rw [List.set_append_right _ _ (by omega), h1, Nat.sub_self, List.drop_eq_getElem_cons h, List.set_cons_zero, List.take_succ_eq_append_getElem h, List.map_append, List.append_assoc, ← cget_eq h]; rfl
theorem mg_get {cl : List Int} {k : Nat} {a b : Int} (h : k < cl.length) : cget ((cl.take k).map (mgF a b) ++ cl.drop k) k = cget cl k := by
  have h1 : ((cl.take k).map (mgF a b)).length = k := by simp; omega
  have h2 : k < ((cl.take k).map (mgF a b) ++ cl.drop k).length := by simp; omega
  rw [← cget_eq h2, List.getElem_append_right (by omega), ← cget_eq h]
  simp only [h1, Nat.sub_self, List.getElem_drop, Nat.add_zero]
theorem mg_same {cl : List Int} {k : Nat} {a b : Int} (h : k < cl.length) (hne : cget cl k ≠ a) : (cl.take k).map (mgF a b) ++ cl.drop k = (cl.take (k + 1)).map (mgF a b) ++ cl.drop (k + 1) := by
  rw [List.drop_eq_getElem_cons h, List.take_succ_eq_append_getElem h, List.map_append, List.append_assoc]
  have : cl[k] = mgF a b cl[k] := by unfold mgF; rw [if_neg (by rw [cget_eq h]; exact hne)]
  simp [← this]

theorem mmerge_ok {N bm bs : Nat} {s : Aut} {vl : Value} {cs : List CV} {vc : Value} {cl : List Int} {w : World} {x' y' : Nat} (h : Mg N bm bs s vl cs vc cl w) (hx : x' < cl.length) (hy : y' < cl.length) (hn : cl.length ≤ 4096) :
    Ret Tryd.prog 70 [.pointer (some ⟨bm, 0, none⟩), .int .i64 x', .int .i64 y'] w fun _ w' => Step (ob vc) w w' ∧ IntsO 3 N w' vc (mergeC cl x' y') := by
  refine Ret.of_W Tryd.func70 rfl Tryd.ntmps70 Tryd.results70 (by simp) ?_
  have hI := IntsO.ints (L := []) h.c (by omega) (by simp)
  obtain ⟨g0, cap, hvc⟩ := own_slice h.c (by omega)
  refine W_seq <| W_draw (Step [] w) [(0, true), (1, true), (2, true), (3, true), (4, true), (5, true), (6, true), (7, true), (8, true), (9, true), (10, true), (11, true), (12, true), (13, true), (14, true), (15, true)] Tryd.mixed (by rfl) (by kernel_rfl) (Step.drew _ _) ?_
  refine p (fun _ => r_move) <| p (fun _ => r_nilCheck rfl) <| p (fun _ => r_fieldB rfl) <| pq (fun _ hc => r_loadB (h.B.ext hc) rfl rfl) <| p (fun _ => r_move) <| pic (i := y') rfl hI rfl rfl hy fun a14 h14 =>
    pq (fun _ hc => r_loadA (h14.ext hc) rfl) <| p (fun _ => r_move) <| p (fun _ => r_nilCheck rfl) <| p (fun _ => r_fieldB rfl) <| pq (fun _ hc => r_loadB (h.B.ext hc) rfl rfl) <|
    p (fun _ => r_move) <| pic (i := x') rfl hI rfl rfl hx fun a21 h21 => pq (fun _ hc => r_loadA (h21.ext hc) rfl) <| p (fun _ => r_assign) <|
    p (fun _ => r_assign) <| pe ?_
  have h1 := h.ext (Step.drew [] w)
  generalize hw1 : ({ w with drawn := w.drawn + 1 } : World) = w1 at h1
  have hs1 : Step [] w w1 := by rw [← hw1]; exact Step.drew _ _
  refine W_seq <| W_region (by rfl) ?_
  refine x r_move <| x (r_nilCheck rfl) <| x (r_fieldB rfl) <| x (r_loadB h1.B rfl rfl) <| x (r_lenA hI rfl) <| x r_move <| xe ?_
  refine W_block <| W_loop (α := Nat) [(8, 8), (28, 47)] (fun z => [(28, .int .i64 z)]) (fun z w' => z ≤ cl.length ∧ Step (ob vc) w1 w' ∧ IntsO 3 N w' vc ((cl.take z).map (mgF (cget cl y') (cget cl x')) ++ cl.drop z)) (fun z => cl.length - z) (by rfl) 0 ⟨rfl, trivial⟩
    ⟨Nat.zero_le _, Step.refl _ _, by simpa using h1.c⟩ ?_
  rintro k g w2 ⟨hk, hs2, ho2⟩
  have h2 := h1.st hs2 ho2
  have hlen : ((cl.take k).map (mgF (cget cl y') (cget cl x')) ++ cl.drop k).length = cl.length := by simp; omega
  refine W_seq <| W_region (by rfl) ?_
  refine x (r_lss rfl rfl) <| xe ?_
  refine W_seq <| W_ifn rfl (fun h29 => ?_) (fun h29 => ?_)
  · refine W_exit ?_
    rw [List.take_of_length_le (by omega), List.drop_of_length_le (by omega), List.append_nil] at ho2
    exact ⟨[], trivial, hs1.any.trans' hs2, ho2⟩
  have hlt : k < cl.length := by omega
  have hgk := mg_get (a := cget cl y') (b := cget cl x') hlt
  have hI2 := IntsO.ints (L := []) ho2 (by omega) (by simp)
  refine W_skip ?_
  refine W_seq <| W_block <| W_seq <| W_region (by rfl) ?_
  refine x r_move <| x r_assign <| xe ?_
  refine W_seq <| W_region (by rfl) ?_
  refine x r_move <| x (r_nilCheck rfl) <| x (r_fieldB rfl) <| x (r_loadB h2.B rfl rfl) <| x r_move <| xic (i := k) hI2 rfl rfl (by omega) fun a36 h36 => ?_
  rw [hgk] at h36
  refine x (r_loadA h36 rfl) <| x r_move <| x (r_eql rfl rfl) <| xe ?_
  refine W_ifn rfl (fun h39 => ?_) (fun h39 => ?_)
  · refine W_skip ?_
    refine W_region (by rfl) ?_
    refine x (r_add rfl rfl ⟨by omega, by omega⟩) <| x r_move <| xe ?_
    exact ⟨k + 1, by omega, ⟨rfl, trivial⟩, hlt, hs2, by rw [← mg_same hlt h39]; exact ho2⟩
  refine W_region (by rfl) ?_
  refine x r_move <| x (r_nilCheck rfl) <| x (r_fieldB rfl) <| x (r_loadB h2.B rfl rfl) <| x r_move <| x r_move <| x (r_indexB (i := k) hvc rfl hlt) <|
    xl rfl <| o_storeIO (u := cget cl x') ho2 (by rw [hlen]; exact hvc) rfl rfl (by omega) fun w3 hs3 ho3 => xe ?_
  refine W_region (by rfl) ?_
  refine x (r_add rfl rfl ⟨by omega, by omega⟩) <| x r_move <| xe ?_
  refine ⟨k + 1, by omega, ⟨rfl, trivial⟩, hlt, hs2.trans' hs3, ?_⟩
  rw [← mg_set hlt, show mgF (cget cl y') (cget cl x') (cget cl k) = cget cl x' by unfold mgF; rw [if_pos h39]]; exact ho3
end Go.Proofs.YtfhgnlkdcdlblaaDoor
