/- strings.Builder's writers, strconv.Itoa, product.key. -/
import Derived.Test.YtfhgnlkdcdlblaaDoorCf
import Derived.Test.YtfhgnlkdcdlblaaDoorSh
import Derived.Lib.Builder
import Derived.Laws.Externs
namespace Go.Lg
open Go.RowKit
section
variable {P : Program} {K : Fr → World → Prop} {f : Fr} {w : World} {d : Option Nat} {ty : Nat} {ps : String} {af : Array Edge} {gd : Option (Nat × Bool)}
theorem r_isnil {t te t' : Nat} (hp : P.underlying t = some (.pointer te)) {x y : Operand} {a : Option Addr} (hx : ev f x = .pointer a) (hy : ev f y = .pointer none) :
    (execOp (ev f) ⟨d, .binOp .eql t x y t', ty, ps, af, gd⟩).run P w = .ok (.value (.bool a.isNone)) w := by
  have hg : (eqGuard .eql t x y (.pointer a) (.pointer none)).run P w = .ok () w := by simp [eqGuard]
  have key : ∀ m, (Op.equalIn (m + 1) t (.pointer a) (.pointer none)).run P w = .ok a.isNone w := by
    intro m
    unfold Op.equalIn
    cases a <;> simp [run_underlying hp]
  have he : (Op.equal t (.pointer a) (.pointer none)).run P w = .ok a.isNone w := key 9999
  simp only [execOp, hx, hy, Sem.run_bind, hg, Result.andThen_ok, binOp, he, Sem.run_pure]
theorem r_neqsame {t te t' : Nat} {j : TypeInfo} (hp : P.underlying t = some (.pointer te)) (hj : P.info? te = some j) {x y : Operand} {a : Addr} (hx : ev f x = .pointer (some a)) (hy : ev f y = .pointer (some a)) :
    (execOp (ev f) ⟨d, .binOp .neq t x y t', ty, ps, af, gd⟩).run P w = .ok (.value (.bool false)) w := by
  have hg : (eqGuard .neq t x y (.pointer (some a)) (.pointer (some a))).run P w = .ok () w := by simp [eqGuard]
  simp only [execOp, hx, hy, Sem.run_bind, hg, Result.andThen_ok, Lib.run_neq_ptr_same w a hp hj, Sem.run_pure]
theorem r_convP {t t' : Nat} {x : Operand} {v v' : Value} (hx : ev f x = v) (h : (convert t t' v).run P w = .ok v' w) :
    (execOp (ev f) ⟨d, .convert t t' x, ty, ps, af, gd⟩).run P w = .ok (.value v') w := by
  simp [execOp, hx, h]
theorem r_extern {g : Nat} {fn : Func} {e : Array Value → Sem Value} {x : Operand} {v : Value} {ts : Array Nat} (hf : P.funcs[g]? = some fn) (hname : (fn.name == "runtime.NumGoroutine") = false)
    (hb : fn.body.isNone = true) (hn : Extern.findNext fn = none) (he : Extern.find fn = some e) (h : (e #[ev f x]).run P w = .ok v w) :
    (execOp (ev f) ⟨d, .call ⟨.value (.func g), #[x], ts⟩, ty, ps, af, gd⟩).run P w = .ok (.value v) w := by
  have hc := run_callFunc_extern hf hname hb hn he #[ev f x] w
  rw [h] at hc
  have h0 : ev f (.func g) = .func (.func g) #[] #[] := rfl
  simp [execOp, resolve, h0, Deferred.ofValue, invoke, hc, Result.andThen]
/-- append(bytes, s...) -/
theorem o_appS {t e u : Nat} [h : Sl P t e 1 1 (.int .u8 0)] (hu : P.underlying u = some .string) {s y : Operand} {base : Nat} {v : Value} {n : Nat} {cs : List Value} (hown : w.ownsRow base e 1 v n cs) (hs : ev f s = v)
    {b : ByteArray} (hy : ev f y = .string b) (hb : n + b.size ≤ 1099511627776) (hbase : base ≤ w.heap.size)
    (hK : ∀ v' w', w'.ownsRow base e 1 v' (n + b.size) (cs ++ Lib.strCells b) → Step (ob v) w w' → K (putF f d v') w') :
    XO P ⟨d, .call ⟨.builtin .append, #[s, y], #[t, u]⟩, ty, ps, af, gd⟩ f w K := by
  obtain ⟨i, hi, hz, hsz, hbys⟩ := Sl.info h
  obtain ⟨v', w', hr, h2, h3, _⟩ := Lib.run_append_own_string (P := P) w base t u ty e i h.u hu hi hz hsz hbys v n cs hown b (by simp only [maxLen]; omega) (by omega) hbase
  have hr' : (execOp (ev f) ⟨d, .call ⟨.builtin .append, #[s, y], #[t, u]⟩, ty, ps, af, gd⟩).run P w = .ok (.value v') w' := by
    simp [execOp, resolve, invoke, builtin, hs, hy, hr]
  exact xv hr' (hK v' w' h2 (by rw [ob_own]; exact Step.of_grown h3))
theorem r_lenS {x : Operand} {u : Nat} (hu : P.underlying u = some .string) {b : ByteArray} (hx : ev f x = .string b) :
    (execOp (ev f) ⟨d, .call ⟨.builtin .len, #[x], #[u]⟩, ty, ps, af, gd⟩).run P w = .ok (.value (.int .i64 b.size)) w := by
  simp [execOp, resolve, invoke, builtin, Builtin.len_, hx, run_underlying hu, goInt]
end
end Go.Lg
namespace Go.Proofs.YtfhgnlkdcdlblaaDoor
open Go.Lg

/-- The builder in block b holds these bytes. -/
def Bl (p : Value) (b : Nat) (bs : List UInt8) (w : World) : Prop := ∃ v, Blk w.heap b 141 [p, v] ∧ w.ownsRow (b + 1) 5 1 v bs.length (Lib.byteCells bs)
def me (b : Nat) : Value := .pointer (some ⟨b, 0, none⟩)
theorem info_of {P : Program} {t n : Nat} (h : (P.info? t).map (·.size) = some n) : ∃ j, P.info? t = some j ∧ j.size = n := by
  simpa using h
theorem blk_shape {w : World} {b T : Nat} {cs : List Value} (h : Blk w.heap b T cs) : w.shape? b = some (T, cs.length) := by
  unfold Blk at h; simp [World.shape?, h]

theorem copyCheck_ok {w0 w : World} {b : Nat} {bs : List UInt8} {p : Value} (h0 : Step [] w0 w) (hb : w0.heap.size ≤ b) (hp : p = .pointer none ∨ p = me b) (h : Bl p b bs w) :
    Ret Tryd.prog 98 [me b] w fun r w' => r = .tuple #[] ∧ Step [] w0 w' ∧ Bl (me b) b bs w' := by
  obtain ⟨v, hB, ho⟩ := h
  obtain ⟨j, hj, hjs⟩ := info_of (P := Tryd.prog) (t := 141) (n := 2) (by kernel_rfl)
  refine Ret.of_W Tryd.func98 rfl Tryd.ntmps98 Tryd.results98 (by simp) ?_
  refine W_seq <| W_region (by rfl) ?_
  rcases hp with rfl | rfl
  · refine x r_move <| x (r_nilCheck rfl) <| x (r_fieldB rfl) <| x (r_loadB hB rfl rfl) <| x (r_isnil Tryd.underlying139 rfl rfl) <| xe ?_
    refine W_true rfl ?_
    refine W_region (by rfl) ?_
    refine x r_move <| x r_move <| x (r_convP (v' := me b) rfl (Lib.run_to_unsafe w ⟨b, 0, none⟩ Tryd.underlying139 Tryd.underlying165 hj (by rw [hjs]; decide) (blk_shape hB) (by simp))) <|
      x (r_extern (v := me b) Tryd.func104 (by kernel_rfl) (by kernel_rfl) (by kernel_rfl) (e := Extern.AbiNoEscape.same) (by kernel_rfl) rfl) <|
      x (r_convP (v' := me b) rfl (Lib.run_from_unsafe w ⟨b, 0, none⟩ Tryd.underlying165 Tryd.underlying139 hj (blk_shape hB) (by kernel_rfl))) <| x (r_nilCheck rfl) <|
      x (r_fieldB rfl) <| xl rfl <| o_store hB rfl rfl (by simp) rfl fun w2 hs2 hB2 => xe ?_
    exact ⟨[], trivial, rfl, h0.then1 hs2 hb, v, hB2, own_step ho hs2 (fun c hc => by have := (own_ge ho c hc).1; simp; omega)⟩
  · refine x r_move <| x (r_nilCheck rfl) <| x (r_fieldB rfl) <| x (r_loadB hB rfl rfl) <| x (r_isnil Tryd.underlying139 rfl rfl) <| xe ?_
    refine W_false rfl ?_
    refine W_seq <| W_region (by rfl) ?_
    refine x r_move <| x (r_nilCheck rfl) <| x (r_fieldB rfl) <| x (r_loadB hB rfl rfl) <| x r_move <| x (r_neqsame Tryd.underlying139 hj rfl rfl) <| xe ?_
    refine W_false rfl ?_
    refine W_skip ?_
    exact ⟨[], trivial, rfl, h0, v, hB, ho⟩

theorem writeByte_ok {w0 w : World} {b : Nat} {bs : List UInt8} {p : Value} (h0 : Step [] w0 w) (hb : w0.heap.size ≤ b) (hp : p = .pointer none ∨ p = me b) (h : Bl p b bs w) (c : UInt8) (hl : bs.length + 1 ≤ 1000000000) :
    Ret Tryd.prog 80 [me b, .int .u8 c.toNat] w fun _ w' => Step [] w0 w' ∧ Bl (me b) b (bs ++ [c]) w' := by
  refine Ret.of_W Tryd.func80 rfl Tryd.ntmps80 Tryd.results80 (by simp) ?_
  refine W_seq <| W_region (by rfl) ?_
  refine x r_assign <| xe ?_
  refine W_seq <| W_region (by rfl) ?_
  refine x r_move <| xl rfl <| xf <| (copyCheck_ok h0 hb hp h).mono ?_
  rintro r1 w1 ⟨rfl, hs1, v, hB, ho⟩
  refine xe ?_
  have hlt := hB.lt
  refine W_seq <| W_region (by rfl) ?_
  refine x r_move <| x r_move <| x (r_nilCheck rfl) <| x (r_fieldB rfl) <| x (r_loadB hB rfl rfl) <| x r_move <| xl rfl <| o_lits (us := [[.int .u8 c.toNat]]) rfl rfl (by decide) (by simp) ⟨rfl, rfl, trivial⟩ fun b13 w2 hs2 hb13 hB13 => ?_
  have hz2 := hs2.size
  have ho2 := own_ext ho hs2
  refine xl rfl <| o_app (news := [.int .u8 c.toNat]) (L := []) ho2 rfl rfl rfl (hB13.at (by simp)) (by simp [Value.oneCell']) (by omega) (by omega) fun v3 w3 ho3 hs3 hn3 => ?_
  have hB3 := (hB.ext hs2).step hs3 (fun hc => by have := (own_ge ho b hc).1; omega)
  have ho3' : w3.ownsRow (b + 1) 5 1 v3 (bs ++ [c]).length (Lib.byteCells (bs ++ [c])) := by simpa [Lib.byteCells] using ho3
  refine x (r_nilCheck rfl) <| x (r_fieldB rfl) <| xl rfl <| o_store hB3 rfl rfl (by simp) (own_arr (L := []) ho3' (by simp; omega) (by simp)).one fun w4 hs4 hB4 => xe ?_
  refine W_seq <| W_region (by rfl) ?_
  refine x r_assign <| xe ?_
  refine W_ret ⟨[.nilIface], ⟨rfl, trivial⟩, (((hs1.trans hs2).then hs3 (fun c hc => .inr ?_)).then1 hs4 hb), v3, hB4, own_step ho3' hs4 (fun c hc => by have := (own_ge ho3' c hc).1; simp; omega)⟩
  have := (own_ge ho c hc).1; omega
theorem writeString_ok {w0 w : World} {b : Nat} {bs : List UInt8} {p : Value} (h0 : Step [] w0 w) (hb : w0.heap.size ≤ b) (hp : p = .pointer none ∨ p = me b) (h : Bl p b bs w) (s : ByteArray) (hl : bs.length + s.size ≤ 1000000000) :
    Ret Tryd.prog 78 [me b, .string s] w fun _ w' => Step [] w0 w' ∧ Bl (me b) b (bs ++ s.data.toList) w' := by
  refine Ret.of_W Tryd.func78 rfl Tryd.ntmps78 Tryd.results78 (by simp) ?_
  refine W_seq <| W_region (by rfl) ?_
  refine x r_assign <| x r_assign <| xe ?_
  refine W_seq <| W_region (by rfl) ?_
  refine x r_move <| xl rfl <| xf <| (copyCheck_ok h0 hb hp h).mono ?_
  rintro r1 w1 ⟨rfl, hs1, v, hB, ho⟩
  refine xe ?_
  have hlt := hB.lt
  refine W_seq <| W_region (by rfl) ?_
  refine x r_move <| x r_move <| x (r_nilCheck rfl) <| x (r_fieldB rfl) <| x (r_loadB hB rfl rfl) <| x r_move <| xl rfl <| o_appS Tryd.underlying9 ho rfl rfl (by omega) (by omega) fun v3 w3 ho3 hs3 => ?_
  have hB3 := hB.step hs3 (fun hc => by have := (own_ge ho b hc).1; omega)
  have hsz : s.size = s.data.toList.length := rfl
  have ho3' : w3.ownsRow (b + 1) 5 1 v3 (bs ++ s.data.toList).length (Lib.byteCells (bs ++ s.data.toList)) := by
    rw [List.length_append, ← hsz, show Lib.byteCells (bs ++ s.data.toList) = Lib.byteCells bs ++ Lib.strCells s by simp [Lib.byteCells, Lib.strCells_eq]]; exact ho3
  refine x (r_nilCheck rfl) <| x (r_fieldB rfl) <| xl rfl <| o_store hB3 rfl rfl (by simp) (own_arr (L := []) ho3' (by rw [List.length_append, ← hsz]; omega) (by simp)).one fun w4 hs4 hB4 => xe ?_
  refine W_seq <| W_region (by rfl) ?_
  refine x r_move <| x (r_lenS Tryd.underlying9 rfl) <| x r_assign <| x r_assign <| xe ?_
  refine W_ret ⟨[.int .i64 s.size, .nilIface], ⟨rfl, rfl, trivial⟩, ((hs1.then hs3 (fun c hc => .inr ?_)).then1 hs4 hb), v3, hB4, own_step ho3' hs4 (fun c hc => by have := (own_ge ho3' c hc).1; simp; omega)⟩
  have := (own_ge ho c hc).1; omega
theorem string_ok {w0 w : World} {b : Nat} {bs : List UInt8} {p : Value} (h0 : Step [] w0 w) (hb : w0.heap.size ≤ b) (hp : p = .pointer none ∨ p = me b) (h : Bl p b bs w) :
    Ret Tryd.prog 81 [me b] w fun r w' => r = .string ⟨bs.toArray⟩ ∧ Step [] w0 w' := by
  obtain ⟨v, hB, ho⟩ := h
  have hlt := hB.lt
  have hat : Lib.BuilderAt 141 5 b b p (Lib.byteCells bs) w := ⟨Nat.le_refl _, v, hB, by rw [Lib.byteCells_length]; exact own_base ho (by omega), fun e => by
    have : b ∈ ob v := by rw [ob_own, e]; simp
    have := (own_ge ho b this).1; omega⟩
  unfold Ret
  refine Calls.mono (Tryd.Builder_String_any b b bs w (by rcases hp with rfl | rfl; exact .inl hat; exact .inr hat) (by omega)) ?_
  rintro e w' ⟨rfl, hw⟩
  exact ⟨rfl, ⟨hw.os.trans h0.os, hw.tape.trans h0.tape, hw.output.trans h0.output, Nat.le_trans h0.size hw.size, fun k hk hL => (hw.block k (by omega)).trans (h0.block k hk hL)⟩⟩
theorem itoa_ok (i : Nat) (hi : i < 100) (w : World) : Ret Tryd.prog 79 [.int .i64 i] w fun r w' => r = .string ⟨(Lib.decDigits i).toArray⟩ ∧ w' = w := by
  unfold Ret
  refine Calls.mono (Tryd.strconv_Itoa_small i hi w) ?_
  rintro e w' ⟨rfl, rfl⟩
  exact ⟨rfl, rfl⟩

/-! ### The key of a tuple -/
def keyB (l : List Int) : List UInt8 := l.flatMap fun n => Lib.decDigits n.toNat ++ [32]
theorem dec_small (u : Nat) (h : u < 100) : (Lib.decDigits u).length ≤ 2 := by
  unfold Lib.decDigits
  split
  · simp
  · rw [List.length_append]; unfold Lib.decDigits; rw [dif_pos (by omega)]; simp
theorem key_ok {L : List Nat} {w : World} {v : Value} {l : List Int} (h : Ints L w.heap v l) (hb : ∀ n ∈ l, 0 ≤ n ∧ n < 100) (hl : l.length ≤ 1000000) :
    Ret Tryd.prog 50 [v] w fun r w' => r = .string ⟨(keyB l).toArray⟩ ∧ Step [] w w' := by
  refine Ret.of_W Tryd.func50 rfl Tryd.ntmps50 Tryd.results50 (by simp) ?_
  refine W_seq <| W_region (by rfl) ?_
  refine x r_assign <| xe ?_
  refine W_seq <| W_region (by rfl) ?_
  refine xl rfl <| o_alloc (us := [.pointer none, .slice none 0 0]) rfl fun b3 w1 hs1 hb3 hB3 => xe ?_
  refine W_seq <| W_seq <| W_region (by rfl) ?_
  refine x r_move <| x (r_lenA h rfl) <| x r_move <| xe ?_
  refine W_block <| W_loop (α := Nat × Value) [(5, 5), (8, 16)] (fun z => [(8, .int .i64 z.1)]) (fun z w' => z.1 ≤ l.length ∧ Step [] w w' ∧ (z.2 = .pointer none ∨ z.2 = me b3) ∧ Bl z.2 b3 (keyB (l.take z.1)) w' ∧ (keyB (l.take z.1)).length ≤ 3 * z.1) (fun z => l.length - z.1) (by rfl) (0, .pointer none) ⟨rfl, trivial⟩
    ⟨Nat.zero_le _, hs1, .inl rfl, ⟨_, hB3, own_nil _ _ _ _⟩, Nat.le_refl _⟩ ?_
  rintro ⟨k, p⟩ g w2 ⟨hk, hs2, hp, hBl, hlen⟩
  simp only [] at hk hp hBl hlen
  refine W_seq <| W_region (by rfl) ?_
  refine x (r_lss rfl rfl) <| xe ?_
  refine W_seq <| W_ifn rfl (fun h9 => ?_) (fun h9 => ?_)
  · refine W_exit ?_
    refine W_seq <| W_region (by rfl) ?_
    rw [List.take_of_length_le (by omega)] at hBl
    refine xl rfl <| xf <| (string_ok hs2 hb3 hp hBl).mono ?_
    rintro r3 w3 ⟨rfl, hs3⟩
    refine x r_assign <| xe ?_
    exact W_ret ⟨[.string ⟨(keyB l).toArray⟩], ⟨rfl, trivial⟩, rfl, hs3⟩
  have hlt : k < l.length := by omega
  have hbd := hb l[k] (List.getElem_mem hlt)
  obtain ⟨q, hq⟩ : ∃ q : Nat, l[k] = q := ⟨l[k].toNat, by omega⟩
  have hqn : l[k].toNat = q := by omega
  have hds := dec_small q (by omega)
  have htk : keyB (l.take (k + 1)) = keyB (l.take k) ++ Lib.decDigits q ++ [32] := by
    rw [List.take_succ_eq_append_getElem hlt]
    unfold keyB
    rw [List.flatMap_append, List.flatMap_singleton, hqn, List.append_assoc]
  refine W_skip ?_
  refine W_seq <| W_block <| W_seq <| W_region (by rfl) ?_
  refine xii (h.ext hs2) rfl rfl hlt fun a10 h10 => x (r_loadA h10 rfl) <| x r_assign <| xe ?_
  refine W_seq <| W_region (by rfl) ?_
  refine x r_move <| xl rfl <| xf ?_
  refine (show Ret _ _ [.int .i64 l[k]] _ _ by rw [hq]; exact (itoa_ok q (by omega) w2)).mono ?_
  rintro r4 w4 ⟨rfl, rfl⟩
  refine xl rfl <| xf <| (writeString_ok hs2 hb3 hp hBl ⟨(Lib.decDigits q).toArray⟩ (by show _ + (Lib.decDigits q).toArray.size ≤ _; simp; omega)).mono ?_
  rintro r5 w5 ⟨hs5, hBl5⟩
  refine xe ?_
  refine W_region (by rfl) ?_
  refine xl rfl <| xf <| (writeByte_ok hs5 hb3 (.inr rfl) hBl5 32 (by simp; omega)).mono ?_
  rintro r6 w6 ⟨hs6, hBl6⟩
  refine xe ?_
  refine W_region (by rfl) ?_
  refine x (r_add rfl rfl ⟨by omega, by omega⟩) <| x r_move <| xe ?_
  refine ⟨(k + 1, me b3), by simp only []; omega, ⟨rfl, trivial⟩, by simp only []; omega, hs6, .inr rfl, ?_, ?_⟩
  · simp only []; rw [htk]; simpa using hBl6
  · simp only []; rw [htk]; simp; omega
end Go.Proofs.YtfhgnlkdcdlblaaDoor
