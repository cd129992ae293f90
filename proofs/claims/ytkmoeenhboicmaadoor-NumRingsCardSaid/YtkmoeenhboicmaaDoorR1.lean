/- The walks of the document's own numbers: trim, Part, Words. -/
import Derived.Test.YtkmoeenhboicmaaDoorN8
set_option linter.unusedSimpArgs false
set_option linter.unusedVariables false
set_option maxRecDepth 100000

namespace Go.V
open Go Go.RowKit Go.Proofs

theorem OW.append {P : Program} {t el bytes : Nat} {z : Value} (T : SlT P t el 1 bytes z) (hz : z.cells.size = 1) {k : IntKind} {B : Nat} {w : World} {base : Nat} {v src : Value} {xs ys : List Nat} (h : OW el k B w base v xs) (hbase : base ≤ w.heap.size) (hs : Ws k B w.heap src ys)
    (hb : (xs.length + ys.length) * bytes ≤ 140737488355328) (hm : xs.length + ys.length ≤ 140737488355328) {t' : TypeId} (ht' : t' = t) {ty : TypeId} :
    ∃ v' w', Does P (Builtin.append_ #[t, t'] ty #[v, src]) w v' w' ∧ OW el k B w' base v' (xs ++ ys) ∧ ∀ w0, Below base w0 w → Below base w0 w' := by
  obtain ⟨v', w', h1, h2, h3⟩ := append_own (P := P) T hz (by decide) h.own hbase hs.1 (fun j _ => rfl) hb hm ht' (ty := ty)
  refine ⟨v', w', h1, ⟨?_, ?_, by simpa using hm⟩, fun w0 hw => Below.grown hw h3 hbase ?_⟩
  · rw [wc_range] at h2
    rw [List.length_append]
    simpa [wc] using h2
  · intro x hx
    rcases List.mem_append.1 hx with h' | h'
    · exact h.lt x h'
    · exact hs.2 x h'
  · intro g hg
    rcases h.own.2 with ⟨rfl, _⟩ | ⟨g', cap, cur, rfl, hb, _⟩
    · simp [Value.ownBlock] at hg
    · simp only [Value.ownBlock, Option.some.injEq] at hg
      omega

theorem T32 : SlT Tryd.prog 34 75 1 4 (.int .u32 0) := ⟨Tryd.underlying34, by kernel_rfl⟩
theorem S32 : scalB Tryd.prog 75 = true := by kernel_rfl
abbrev U32s (H : Array Obj) (v : Value) (xs : List Nat) : Prop := Ws .u32 4294967296 H v xs
abbrev N32 (xs : List Nat) : Nat := nval 4294967296 xs
abbrev D32 (n : Nat) : List Nat := digs 4294967296 n
abbrev O32 (w : World) (base : Nat) (v : Value) (xs : List Nat) : Prop := OW 75 .u32 4294967296 w base v xs
theorem two32 : 2 ≤ 4294967296 := by decide
theorem Ws.get32 {w : World} {v : Value} {xs : List Nat} (h : U32s w.heap v xs) {k : IntKind} {i : Nat} (h1 : i < xs.length) :
    ∃ ad, IxA Tryd.prog 34 v (.int k (i : Int)) ad ∧ ∀ w', Ext w w' → Ld Tryd.prog w' 75 (.pointer (some ad)) (.int .u32 ((xs.getD i 0 : Nat) : Int)) := by
  obtain ⟨ad, h2, h3⟩ := h.1.get T32 S32 (k := k) (i := i) (by omega) (by omega)
  exact ⟨ad, h2, h3⟩

set_option maxHeartbeats 400000 in
theorem r_trim {w : World} {v : Value} {xs : List Nat} (h : U32s w.heap v xs) : FC Tryd.prog 67 #[v] w fun r w' => Ext w w' ∧ U32s w'.heap r (D32 (N32 xs)) := by
  have hb := h.1.1
  refine FC.body (l := [v]) (rs := [.tmp 2]) mixed Tryd.func67 rfl (by kernel_rfl) (by kernel_rfl) (Nat.le_of_ble_eq_true rfl) rfl ?_
  with_reducible refine vc_seq fun K hK => ?_
  with_reducible refine vc_reg ?_
  simp only [go_sem, opsV, undef, binV_int, binV_eqB, binV_neB, pbin_int, pbin_eqB, pbin_neB, intV, arith, unV_not, unV_neg, Nat.reduceBEq, Nat.reduceEqDiff, ↓reduceIte, reduceCtorEq, Int.reduceToNat, Nat.reduceLeDiff, Int.reduceLE, Int.reduceLT, Int.reducePow, Int.reduceNeg, Nat.reduceAdd, Nat.reduceMul, Nat.reducePow, Tryd.underlying34]
  refine hK _ _ ?_
  clear hK K
  refine vc_seq fun K hK => ?_
  refine vc_reg ?_
  try simp only [go_sem, opsV, undef, binV_int, binV_eqB, binV_neB, pbin_int, pbin_eqB, pbin_neB, intV, arith, unV_not, unV_neg, Nat.reduceBEq, Nat.reduceEqDiff, ↓reduceIte, reduceCtorEq, Int.reduceToNat, Nat.reduceLeDiff, Int.reduceLE, Int.reduceLT, Int.reducePow, Int.reduceNeg, Nat.reduceAdd, Nat.reduceMul, Nat.reducePow, Tryd.underlying34]
  refine ⟨_, h.len, ?_⟩
  refine hK _ _ ?_
  clear hK K
  refine vc_seq fun K hK => ?_
  have J : ∀ (e : Env) (w' : World) (k : Nat), k ≤ xs.length → e 0 = v → e 3 = .int .i64 (k : Int) → Ext w w' → (∀ j, k ≤ j → xs.getD j 0 = 0) → (k ≠ 0 → xs.getD (k - 1) 0 ≠ 0) → K e w' := by
    intro e w' k hk h0 h3 hE hz hnz
    refine hK _ _ ?_
    clear hK K
    with_reducible refine vc_seq fun K hK => ?_
    with_reducible refine vc_reg ?_
    simp only [go_sem, opsV, undef, binV_int, binV_eqB, binV_neB, pbin_int, pbin_eqB, pbin_neB, intV, arith, unV_not, unV_neg, Nat.reduceBEq, Nat.reduceEqDiff, ↓reduceIte, reduceCtorEq, Int.reduceToNat, Nat.reduceLeDiff, Int.reduceLE, Int.reduceLT, Int.reducePow, Int.reduceNeg, Nat.reduceAdd, Nat.reduceMul, Nat.reducePow, Tryd.underlying34]
    simp only [h0, h3]
    have ht : xs.take k = D32 (N32 xs) := take_digs two32 h.2 hk hz hnz
    have hl : (D32 (N32 xs)).length = k := by rw [← ht]; simp; omega
    refine ⟨_, sl_cutC T32 h.1 hk, ?_⟩
    refine hK _ _ ?_
    clear hK K
    refine vc_ret ?_
    simp only [retV, resL, one, go_sem, opsV, undef, binV_int, binV_eqB, binV_neB, pbin_int, pbin_eqB, pbin_neB, intV, arith, unV_not, unV_neg, Nat.reduceBEq, Nat.reduceEqDiff, ↓reduceIte, reduceCtorEq, Int.reduceToNat, Nat.reduceLeDiff, Int.reduceLE, Int.reduceLT, Int.reducePow, Int.reduceNeg, Nat.reduceAdd, Nat.reduceMul, Nat.reducePow, Tryd.underlying34]
    refine ⟨hE, ?_⟩
    rw [← ht]
    exact (h.takeC hk).up hE
  refine vc_block ?_
  refine vc_loop (fun e w' => ∃ k : Nat, k ≤ xs.length ∧ e 0 = v ∧ e 3 = .int .i64 (k : Int) ∧ Ext w w' ∧ ∀ j, k ≤ j → xs.getD j 0 = 0) (fun e _ => (intOf (e 3)).toNat) ?_ ?_
  · refine ⟨xs.length, Nat.le_refl _, ?_, ?_, Ext.refl _, fun j hj => ?_⟩
    · simp only [go_sem, opsV, undef, binV_int, binV_eqB, binV_neB, pbin_int, pbin_eqB, pbin_neB, intV, arith, unV_not, unV_neg, Nat.reduceBEq, Nat.reduceEqDiff, ↓reduceIte, reduceCtorEq, Int.reduceToNat, Nat.reduceLeDiff, Int.reduceLE, Int.reduceLT, Int.reducePow, Int.reduceNeg, Nat.reduceAdd, Nat.reduceMul, Nat.reducePow, Tryd.underlying34]
    · simp only [go_sem, opsV, undef, binV_int, binV_eqB, binV_neB, pbin_int, pbin_eqB, pbin_neB, intV, arith, unV_not, unV_neg, Nat.reduceBEq, Nat.reduceEqDiff, ↓reduceIte, reduceCtorEq, Int.reduceToNat, Nat.reduceLeDiff, Int.reduceLE, Int.reduceLT, Int.reducePow, Int.reduceNeg, Nat.reduceAdd, Nat.reduceMul, Nat.reducePow, Tryd.underlying34]
    · simp [List.getD, List.getElem?_eq_none hj]
  · rintro e w' ⟨k, hk, h0, h3, hE, hz⟩
    have hmz : (intOf (e 3)).toNat = k := by rw [h3]; rfl
    refine vc_seq fun K1 hK1 => ?_
    refine vc_seq fun K2 hK2 => ?_
    rcases Nat.eq_zero_or_pos k with rfl | hp
    · refine vc_reg ?_
      simp only [go_sem, opsV, undef, binV_int, binV_eqB, binV_neB, pbin_int, pbin_eqB, pbin_neB, intV, arith, unV_not, unV_neg, Nat.reduceBEq, Nat.reduceEqDiff, ↓reduceIte, reduceCtorEq, Int.reduceToNat, Nat.reduceLeDiff, Int.reduceLE, Int.reduceLT, Int.reducePow, Int.reduceNeg, Nat.reduceAdd, Nat.reduceMul, Nat.reducePow, Tryd.underlying34, h0, h3, Nat.lt_irrefl]
      refine hK2 _ _ ?_
      refine vc_condF (by simp only [go_sem, opsV, undef, binV_int, binV_eqB, binV_neB, pbin_int, pbin_eqB, pbin_neB, intV, arith, unV_not, unV_neg, Nat.reduceBEq, Nat.reduceEqDiff, ↓reduceIte, reduceCtorEq, Int.reduceToNat, Nat.reduceLeDiff, Int.reduceLE, Int.reduceLT, Int.reducePow, Int.reduceNeg, Nat.reduceAdd, Nat.reduceMul, Nat.reducePow, Tryd.underlying34] <;> rfl) ?_
      refine vc_exit ?_
      simp only [↓reduceIte]
      exact J _ _ 0 (Nat.zero_le _) (by simp only [go_sem, opsV, undef, binV_int, binV_eqB, binV_neB, pbin_int, pbin_eqB, pbin_neB, intV, arith, unV_not, unV_neg, Nat.reduceBEq, Nat.reduceEqDiff, ↓reduceIte, reduceCtorEq, Int.reduceToNat, Nat.reduceLeDiff, Int.reduceLE, Int.reduceLT, Int.reducePow, Int.reduceNeg, Nat.reduceAdd, Nat.reduceMul, Nat.reducePow, Tryd.underlying34, h0]) (by simp only [go_sem, opsV, undef, binV_int, binV_eqB, binV_neB, pbin_int, pbin_eqB, pbin_neB, intV, arith, unV_not, unV_neg, Nat.reduceBEq, Nat.reduceEqDiff, ↓reduceIte, reduceCtorEq, Int.reduceToNat, Nat.reduceLeDiff, Int.reduceLE, Int.reduceLT, Int.reducePow, Int.reduceNeg, Nat.reduceAdd, Nat.reduceMul, Nat.reducePow, Tryd.underlying34, h3] <;> rfl) hE hz (fun h => absurd rfl h)
    · obtain ⟨m, rfl⟩ : ∃ m, k = m + 1 := ⟨k - 1, by omega⟩
      obtain ⟨ad, ha, hld⟩ := h.get32 (k := .i64) (i := m) (by omega)
      refine vc_reg ?_
      simp only [go_sem, opsV, undef, binV_int, binV_eqB, binV_neB, pbin_int, pbin_eqB, pbin_neB, intV, arith, unV_not, unV_neg, Nat.reduceBEq, Nat.reduceEqDiff, ↓reduceIte, reduceCtorEq, Int.reduceToNat, Nat.reduceLeDiff, Int.reduceLE, Int.reduceLT, Int.reducePow, Int.reduceNeg, Nat.reduceAdd, Nat.reduceMul, Nat.reducePow, Tryd.underlying34, h0, h3, hp]
      refine ⟨(by unfold R64; omega), ad, ha, _, hld _ hE, ?_⟩
      simp only [go_sem, opsV, undef, binV_int, binV_eqB, binV_neB, pbin_int, pbin_eqB, pbin_neB, intV, arith, unV_not, unV_neg, Nat.reduceBEq, Nat.reduceEqDiff, ↓reduceIte, reduceCtorEq, Int.reduceToNat, Nat.reduceLeDiff, Int.reduceLE, Int.reduceLT, Int.reducePow, Int.reduceNeg, Nat.reduceAdd, Nat.reduceMul, Nat.reducePow, Tryd.underlying34]
      refine hK2 _ _ ?_
      clear hK2
      refine vc_condD (by simp only [go_sem, opsV, undef, binV_int, binV_eqB, binV_neB, pbin_int, pbin_eqB, pbin_neB, intV, arith, unV_not, unV_neg, Nat.reduceBEq, Nat.reduceEqDiff, ↓reduceIte, reduceCtorEq, Int.reduceToNat, Nat.reduceLeDiff, Int.reduceLE, Int.reduceLT, Int.reducePow, Int.reduceNeg, Nat.reduceAdd, Nat.reduceMul, Nat.reducePow, Tryd.underlying34] <;> rfl) (fun hx => ?_) (fun hx => ?_)
      · refine vc_skip ?_
        refine hK1 _ _ ?_
        refine vc_block ?_
        refine vc_reg ?_
        simp only [go_sem, opsV, undef, binV_int, binV_eqB, binV_neB, pbin_int, pbin_eqB, pbin_neB, intV, arith, unV_not, unV_neg, Nat.reduceBEq, Nat.reduceEqDiff, ↓reduceIte, reduceCtorEq, Int.reduceToNat, Nat.reduceLeDiff, Int.reduceLE, Int.reduceLT, Int.reducePow, Int.reduceNeg, Nat.reduceAdd, Nat.reduceMul, Nat.reducePow, Tryd.underlying34, h0, h3]
        refine ⟨(by unfold R64; omega), ⟨m, by omega, rfl, hE, fun j hj => ?_⟩, by simp only [intOf]; omega⟩
        rcases Nat.lt_or_ge m j with hj' | hj'
        · exact hz j hj'
        · obtain rfl : j = m := by omega
          exact hx
      · refine vc_exit ?_
        simp only [↓reduceIte]
        exact J _ _ (m + 1) hk (by simp only [go_sem, opsV, undef, binV_int, binV_eqB, binV_neB, pbin_int, pbin_eqB, pbin_neB, intV, arith, unV_not, unV_neg, Nat.reduceBEq, Nat.reduceEqDiff, ↓reduceIte, reduceCtorEq, Int.reduceToNat, Nat.reduceLeDiff, Int.reduceLE, Int.reduceLT, Int.reducePow, Int.reduceNeg, Nat.reduceAdd, Nat.reduceMul, Nat.reducePow, Tryd.underlying34, h0]) (by simp only [go_sem, opsV, undef, binV_int, binV_eqB, binV_neB, pbin_int, pbin_eqB, pbin_neB, intV, arith, unV_not, unV_neg, Nat.reduceBEq, Nat.reduceEqDiff, ↓reduceIte, reduceCtorEq, Int.reduceToNat, Nat.reduceLeDiff, Int.reduceLE, Int.reduceLT, Int.reducePow, Int.reduceNeg, Nat.reduceAdd, Nat.reduceMul, Nat.reducePow, Tryd.underlying34, h3]) hE hz (fun _ => by simpa using hx)

/-- Each word as two digits. -/
def parts : List Nat → List Nat
  | [] => []
  | x :: r => x % 4294967296 :: x / 4294967296 :: parts r
theorem parts_len : ∀ xs : List Nat, (parts xs).length = 2 * xs.length
  | [] => rfl
  | x :: r => by simp [parts, parts_len r]; omega
theorem parts_val : ∀ xs : List Nat, nval 4294967296 (parts xs) = nval 18446744073709551616 xs
  | [] => rfl
  | x :: r => by simp only [parts, nval, parts_val r]; omega
theorem parts_append : ∀ xs ys : List Nat, parts (xs ++ ys) = parts xs ++ parts ys
  | [], ys => rfl
  | x :: r, ys => by simp [parts, parts_append r ys]
theorem take_one {xs : List Nat} {k : Nat} (h : k < xs.length) : xs.take (k + 1) = xs.take k ++ [xs.getD k 0] := by
  rw [List.take_add_one]
  simp [List.getD, h]

set_option maxHeartbeats 400000 in
theorem r_Part {w : World} {v : Value} {xs : List Nat} (h : U64s w.heap v xs) (hl : xs.length ≤ 1099511627776) : FC Tryd.prog 47 #[v] w fun r w' => Ext w w' ∧ U32s w'.heap r (D32 (N64 xs)) := by
  refine FC.body (l := [v]) (rs := [.tmp 2]) mixed Tryd.func47 rfl (by kernel_rfl) (by kernel_rfl) (Nat.le_of_ble_eq_true rfl) rfl ?_
  with_reducible refine vc_seq fun K hK => ?_
  with_reducible refine vc_reg ?_
  simp only [go_sem, opsV, undef, binV_int, binV_eqB, binV_neB, pbin_int, pbin_eqB, pbin_neB, intV, arith, unV_not, unV_neg, Nat.reduceBEq, Nat.reduceEqDiff, ↓reduceIte, reduceCtorEq, Int.reduceToNat, Nat.reduceLeDiff, Int.reduceLE, Int.reduceLT, Int.reducePow, Int.reduceNeg, Nat.reduceAdd, Nat.reduceMul, Nat.reducePow, Tryd.underlying34]
  refine hK _ _ ?_
  clear hK K
  with_reducible refine vc_seq fun K hK => ?_
  with_reducible refine vc_reg ?_
  simp only [go_sem, opsV, undef, binV_int, binV_eqB, binV_neB, pbin_int, pbin_eqB, pbin_neB, intV, arith, unV_not, unV_neg, Nat.reduceBEq, Nat.reduceEqDiff, ↓reduceIte, reduceCtorEq, Int.reduceToNat, Nat.reduceLeDiff, Int.reduceLE, Int.reduceLT, Int.reducePow, Int.reduceNeg, Nat.reduceAdd, Nat.reduceMul, Nat.reducePow, Tryd.underlying34]
  refine hK _ _ ?_
  clear hK K
  with_reducible refine vc_seq fun K hK => ?_
  with_reducible refine vc_seq fun K hK => ?_
  with_reducible refine vc_reg ?_
  simp only [go_sem, opsV, undef, binV_int, binV_eqB, binV_neB, pbin_int, pbin_eqB, pbin_neB, intV, arith, unV_not, unV_neg, Nat.reduceBEq, Nat.reduceEqDiff, ↓reduceIte, reduceCtorEq, Int.reduceToNat, Nat.reduceLeDiff, Int.reduceLE, Int.reduceLT, Int.reducePow, Int.reduceNeg, Nat.reduceAdd, Nat.reduceMul, Nat.reducePow, Tryd.underlying34]
  refine hK _ _ ?_
  clear hK K
  have J : ∀ (e : Env) (w' : World) (so : Value), e 3 = so → O32 w' w.heap.size so (parts xs) → Ext w w' → K e w' := by
    intro e w' so g3 own hE
    refine hK _ _ ?_
    clear hK K
    with_reducible refine vc_seq fun K hK => ?_
    refine vc_reg ?_
    try simp only [go_sem, opsV, undef, binV_int, binV_eqB, binV_neB, pbin_int, pbin_eqB, pbin_neB, intV, arith, unV_not, unV_neg, Nat.reduceBEq, Nat.reduceEqDiff, ↓reduceIte, reduceCtorEq, Int.reduceToNat, Nat.reduceLeDiff, Int.reduceLE, Int.reduceLT, Int.reducePow, Int.reduceNeg, Nat.reduceAdd, Nat.reduceMul, Nat.reducePow, Tryd.underlying34, g3]
    refine (r_trim own.ws).mono ?_
    rintro r w2 ⟨hE2, hr⟩
    try simp only [go_sem, opsV, undef, binV_int, binV_eqB, binV_neB, pbin_int, pbin_eqB, pbin_neB, intV, arith, unV_not, unV_neg, Nat.reduceBEq, Nat.reduceEqDiff, ↓reduceIte, reduceCtorEq, Int.reduceToNat, Nat.reduceLeDiff, Int.reduceLE, Int.reduceLT, Int.reducePow, Int.reduceNeg, Nat.reduceAdd, Nat.reduceMul, Nat.reducePow, Tryd.underlying34, g3]
    refine hK _ _ ?_
    clear hK K
    refine vc_ret ?_
    simp only [retV, resL, one, go_sem, opsV, undef, binV_int, binV_eqB, binV_neB, pbin_int, pbin_eqB, pbin_neB, intV, arith, unV_not, unV_neg, Nat.reduceBEq, Nat.reduceEqDiff, ↓reduceIte, reduceCtorEq, Int.reduceToNat, Nat.reduceLeDiff, Int.reduceLE, Int.reduceLT, Int.reducePow, Int.reduceNeg, Nat.reduceAdd, Nat.reduceMul, Nat.reducePow, Tryd.underlying34, g3]
    rw [show N32 (parts xs) = N64 xs from parts_val xs] at hr
    exact ⟨hE.trans' hE2, hr⟩
  refine vc_block ?_
  refine vc_loop (fun e w' => ∃ (so : Value) (k : Nat), k ≤ xs.length ∧ O32 w' w.heap.size so (parts (xs.take k)) ∧ Ext w w' ∧ e 0 = v ∧ e 3 = so ∧ e 4 = .int .i64 (k : Int)) (fun e _ => xs.length - (intOf (e 4)).toNat) ?_ ?_
  · refine ⟨.slice none 0 0, 0, Nat.zero_le _, ⟨⟨rfl, .inl ⟨rfl, rfl⟩⟩, by simp [parts], by simp [parts]⟩, Ext.refl _, ?_⟩
    try simp only [go_sem, opsV, undef, binV_int, binV_eqB, binV_neB, pbin_int, pbin_eqB, pbin_neB, intV, arith, unV_not, unV_neg, Nat.reduceBEq, Nat.reduceEqDiff, ↓reduceIte, reduceCtorEq, Int.reduceToNat, Nat.reduceLeDiff, Int.reduceLE, Int.reduceLT, Int.reducePow, Int.reduceNeg, Nat.reduceAdd, Nat.reduceMul, Nat.reducePow, true_and]
    rfl
  · rintro e w' ⟨so, k, hk, own, hE, g0, g3, g4⟩
    have hmz : (intOf (e 4)).toNat = k := by rw [g4]; rfl
    refine vc_seq fun K1 hK1 => ?_
    refine vc_seq fun K2 hK2 => ?_
    refine vc_reg ?_
    try simp only [go_sem, opsV, undef, binV_int, binV_eqB, binV_neB, pbin_int, pbin_eqB, pbin_neB, intV, arith, unV_not, unV_neg, Nat.reduceBEq, Nat.reduceEqDiff, ↓reduceIte, reduceCtorEq, Int.reduceToNat, Nat.reduceLeDiff, Int.reduceLE, Int.reduceLT, Int.reducePow, Int.reduceNeg, Nat.reduceAdd, Nat.reduceMul, Nat.reducePow, Tryd.underlying34, Tryd.underlying22, g0, g3, g4]
    refine ⟨_, (h.up hE).len, ?_⟩
    try simp only [go_sem, opsV, undef, binV_int, binV_eqB, binV_neB, pbin_int, pbin_eqB, pbin_neB, intV, arith, unV_not, unV_neg, Nat.reduceBEq, Nat.reduceEqDiff, ↓reduceIte, reduceCtorEq, Int.reduceToNat, Nat.reduceLeDiff, Int.reduceLE, Int.reduceLT, Int.reducePow, Int.reduceNeg, Nat.reduceAdd, Nat.reduceMul, Nat.reducePow, Tryd.underlying34, Tryd.underlying22, g0, g3, g4]
    refine hK2 _ _ ?_
    clear hK2
    refine vc_condD (by simp only [go_sem, opsV, undef, binV_int, binV_eqB, binV_neB, pbin_int, pbin_eqB, pbin_neB, intV, arith, unV_not, unV_neg, Nat.reduceBEq, Nat.reduceEqDiff, ↓reduceIte, reduceCtorEq, Int.reduceToNat, Nat.reduceLeDiff, Int.reduceLE, Int.reduceLT, Int.reducePow, Int.reduceNeg, Nat.reduceAdd, Nat.reduceMul, Nat.reducePow, Tryd.underlying34, Tryd.underlying22, g0, g3, g4] <;> rfl) (fun ht => ?_) (fun ht => ?_)
    · refine vc_skip ?_
      refine hK1 _ _ ?_
      clear hK1
      refine vc_seq fun K1 hK1 => ?_
      refine vc_block ?_
      obtain ⟨ad, hix, hld⟩ := (h.up hE).get (k := .i64) (i := k) ht
      have hx := h.lt (by decide) k
      have hx1 : xs.getD k 0 % 4294967296 < 4294967296 := Nat.mod_lt _ (by decide)
      have hx2 : xs.getD k 0 / 4294967296 < 4294967296 := by omega
      refine vc_draw [(0, 0), (1, 0), (2, 0), (3, 0), (4, 1), (5, 0), (6, 0), (7, 0), (8, 0), (9, 0), (10, 1), (11, 0), (12, 0), (13, 3), (14, 3), (15, 0)] (by kernel_rfl) ?_
      try simp only [go_sem, opsV, undef, binV_int, binV_eqB, binV_neB, pbin_int, pbin_eqB, pbin_neB, intV, arith, unV_not, unV_neg, Nat.reduceBEq, Nat.reduceEqDiff, ↓reduceIte, reduceCtorEq, Int.reduceToNat, Nat.reduceLeDiff, Int.reduceLE, Int.reduceLT, Int.reducePow, Int.reduceNeg, Nat.reduceAdd, Nat.reduceMul, Nat.reducePow, Tryd.underlying34, Tryd.underlying22, g0, g3, g4, convV_int Tryd.underlying75, Tryd.underlying54, Option.isSome_some, low32 _ hx, Nat.mod_mod, Nat.mod_eq_of_lt hx2, pconv_int Tryd.underlying75]
      refine ⟨ad, hix, _, hld _ (ext_drew _), ?_⟩
      try simp only [go_sem, opsV, undef, binV_int, binV_eqB, binV_neB, pbin_int, pbin_eqB, pbin_neB, intV, arith, unV_not, unV_neg, Nat.reduceBEq, Nat.reduceEqDiff, ↓reduceIte, reduceCtorEq, Int.reduceToNat, Nat.reduceLeDiff, Int.reduceLE, Int.reduceLT, Int.reducePow, Int.reduceNeg, Nat.reduceAdd, Nat.reduceMul, Nat.reducePow, Tryd.underlying34, Tryd.underlying22, g0, g3, g4, convV_int Tryd.underlying75, Tryd.underlying54, Option.isSome_some, low32 _ hx, Nat.mod_mod, Nat.mod_eq_of_lt hx2, pconv_int Tryd.underlying75]
      refine ⟨ad, hix, _, hld _ (ext_drew _), ?_⟩
      try simp only [go_sem, opsV, undef, binV_int, binV_eqB, binV_neB, pbin_int, pbin_eqB, pbin_neB, intV, arith, unV_not, unV_neg, Nat.reduceBEq, Nat.reduceEqDiff, ↓reduceIte, reduceCtorEq, Int.reduceToNat, Nat.reduceLeDiff, Int.reduceLE, Int.reduceLT, Int.reducePow, Int.reduceNeg, Nat.reduceAdd, Nat.reduceMul, Nat.reducePow, Tryd.underlying34, Tryd.underlying22, g0, g3, g4, convV_int Tryd.underlying75, Tryd.underlying54, Option.isSome_some, low32 _ hx, Nat.mod_mod, Nat.mod_eq_of_lt hx2, pconv_int Tryd.underlying75]
      obtain ⟨b2, w2, hs, hn⟩ := slice_lit (w := w'.drew) T32 [.int .u32 ((xs.getD k 0 % 4294967296 : Nat) : Int), .int .u32 ((xs.getD k 0 / 4294967296 : Nat) : Int)] (by simp [Value.cells]) (by simp)
      refine ⟨_, w2, hs, ?_⟩
      have hr : U32s w2.heap (.slice (some ⟨b2, 0, none⟩) 2 2) [xs.getD k 0 % 4294967296, xs.getD k 0 / 4294967296] := by
        have := own_row (w := w2) hn.row (n := 2) (cap := 2) (by simp [Value.cells]) (Nat.le_refl _) (by omega)
        exact own_ws (by simpa [wc, Value.cells] using this) (by intro x hx; simp only [List.mem_cons, List.not_mem_nil, or_false] at hx; rcases hx with rfl | rfl <;> assumption) (by simp)
      have own2 := (own.up (ext_drew _)).up hn.ext
      have hE2 := hE.drew'.trans' hn.ext
      have hpl := parts_len (xs.take k)
      rw [List.length_take, Nat.min_eq_left hk] at hpl
      obtain ⟨v', w3, hap, own3, hE3⟩ := own2.append (P := Tryd.prog) T32 rfl hE2.size hr (by simp [hpl]; omega) (by simp [hpl]; omega) (t' := 34) rfl (ty := 34)
      refine ⟨v', w3, hap, ?_⟩
      try simp only [go_sem, opsV, undef, binV_int, binV_eqB, binV_neB, pbin_int, pbin_eqB, pbin_neB, intV, arith, unV_not, unV_neg, Nat.reduceBEq, Nat.reduceEqDiff, ↓reduceIte, reduceCtorEq, Int.reduceToNat, Nat.reduceLeDiff, Int.reduceLE, Int.reduceLT, Int.reducePow, Int.reduceNeg, Nat.reduceAdd, Nat.reduceMul, Nat.reducePow, Tryd.underlying34, Tryd.underlying22, g0, g3, g4, convV_int Tryd.underlying75, Tryd.underlying54, Option.isSome_some, low32 _ hx, Nat.mod_mod, Nat.mod_eq_of_lt hx2, pconv_int Tryd.underlying75]
      refine hK1 _ _ ?_
      refine vc_reg ?_
      try simp only [go_sem, opsV, undef, binV_int, binV_eqB, binV_neB, pbin_int, pbin_eqB, pbin_neB, intV, arith, unV_not, unV_neg, Nat.reduceBEq, Nat.reduceEqDiff, ↓reduceIte, reduceCtorEq, Int.reduceToNat, Nat.reduceLeDiff, Int.reduceLE, Int.reduceLT, Int.reducePow, Int.reduceNeg, Nat.reduceAdd, Nat.reduceMul, Nat.reducePow, Tryd.underlying34, Tryd.underlying22, g0, g3, g4, convV_int Tryd.underlying75, Tryd.underlying54, Option.isSome_some, low32 _ hx, Nat.mod_mod, Nat.mod_eq_of_lt hx2, pconv_int Tryd.underlying75]
      refine ⟨(by unfold R64; omega), ⟨v', k + 1, by omega, ?_, hE3 _ hE2, ?_⟩, ?_⟩
      · rw [take_one ht, parts_append]
        exact own3
      · try simp only [go_sem, opsV, undef, binV_int, binV_eqB, binV_neB, pbin_int, pbin_eqB, pbin_neB, intV, arith, unV_not, unV_neg, Nat.reduceBEq, Nat.reduceEqDiff, ↓reduceIte, reduceCtorEq, Int.reduceToNat, Nat.reduceLeDiff, Int.reduceLE, Int.reduceLT, Int.reducePow, Int.reduceNeg, Nat.reduceAdd, Nat.reduceMul, Nat.reducePow, Tryd.underlying34, Tryd.underlying22, g0, g3, g4, convV_int Tryd.underlying75, Tryd.underlying54, Option.isSome_some, low32 _ hx, Nat.mod_mod, Nat.mod_eq_of_lt hx2, pconv_int Tryd.underlying75]
      · (try rw [hmz])
        simp only [intOf]; omega
    · refine vc_exit ?_
      simp only [↓reduceIte]
      obtain rfl : k = xs.length := by omega
      rw [List.take_length] at own
      exact J _ _ so (by try simp only [go_sem, opsV, undef, binV_int, binV_eqB, binV_neB, pbin_int, pbin_eqB, pbin_neB, intV, arith, unV_not, unV_neg, Nat.reduceBEq, Nat.reduceEqDiff, ↓reduceIte, reduceCtorEq, Int.reduceToNat, Nat.reduceLeDiff, Int.reduceLE, Int.reduceLT, Int.reducePow, Int.reduceNeg, Nat.reduceAdd, Nat.reduceMul, Nat.reducePow, Tryd.underlying34, g0, g3, g4]) own hE

theorem shl32 (a : Nat) : (a : Int) * 4294967296 = ((a * 4294967296 : Nat) : Int) := by omega
theorem or_shift32 {a b : Nat} (ha : a < 4294967296) (hb : b < 4294967296) : a ||| b * 4294967296 % 18446744073709551616 = a + 4294967296 * b := by
  rw [Nat.mod_eq_of_lt (by omega), Nat.mul_comm, Nat.or_comm]
  have := Nat.two_pow_add_eq_or_of_lt (i := 32) ha b
  rw [show (2 : Nat) ^ 32 = 4294967296 from rfl] at this
  omega

/-- Words of a number whose digits there are: as many as the number has. -/
theorem words_digs {n : Nat} {os : List Nat} (hv : nval 18446744073709551616 os = n) (hlt : ∀ x ∈ os, x < 18446744073709551616) (hl : os.length = ((D32 n).length + 1) / 2) : os = D64 n := by
  subst hv
  symm
  apply digs_nval two64 _ hlt
  rw [← digs_len_eq two64 hlt]
  have h1 := digs_len_le two64 (nval_lt (by decide) os hlt)
  refine Nat.le_antisymm h1 ?_
  by_cases h0 : nval 18446744073709551616 os = 0
  · rw [h0, show D32 0 = [] from digs_zero _] at hl
    simp at hl; simp [hl]
  · have h2 := pow_len_le two32 h0
    have h3 := lt_pow_len two64 (nval 18446744073709551616 os)
    have h4 : (18446744073709551616 : Nat) ^ (os.length - 1) ≤ 4294967296 ^ ((digs 4294967296 (nval 18446744073709551616 os)).length - 1) := by
      rw [show (18446744073709551616 : Nat) = 4294967296 ^ 2 from rfl, ← Nat.pow_mul]
      apply Nat.pow_le_pow_right (by decide)
      show 2 * (os.length - 1) ≤ (D32 (nval 18446744073709551616 os)).length - 1
      omega
    have h5 : os.length - 1 < (digs 18446744073709551616 (nval 18446744073709551616 os)).length :=
      (Nat.pow_lt_pow_iff_right (by decide : 1 < 18446744073709551616)).1 (Nat.lt_of_le_of_lt (Nat.le_trans h4 h2) h3)
    omega

set_option maxHeartbeats 400000 in
theorem r_Words {w : World} {v : Value} {n : Nat} (h : U32s w.heap v (D32 n)) (hl : (D32 n).length ≤ 1099511627776) : FC Tryd.prog 50 #[v] w fun r w' => Ext w w' ∧ U64s w'.heap r (D64 n) := by
  have hn : N32 (D32 n) = n := nval_digs two32 n
  have hW : ∀ os : List Nat, nval 18446744073709551616 os = n → (∀ x ∈ os, x < 18446744073709551616) → os.length = ((D32 n).length + 1) / 2 → os = D64 n := fun os a b c => words_digs a b c
  generalize D32 n = xs at *
  refine FC.body (l := [v]) (rs := [.tmp 2]) mixed Tryd.func50 rfl (by kernel_rfl) (by kernel_rfl) (Nat.le_of_ble_eq_true rfl) rfl ?_
  with_reducible refine vc_seq fun K hK => ?_
  with_reducible refine vc_reg ?_
  simp only [go_sem, opsV, undef, binV_int, binV_eqB, binV_neB, pbin_int, pbin_eqB, pbin_neB, intV, arith, unV_not, unV_neg, Nat.reduceBEq, Nat.reduceEqDiff, ↓reduceIte, reduceCtorEq, Int.reduceToNat, Nat.reduceLeDiff, Int.reduceLE, Int.reduceLT, Int.reducePow, Int.reduceNeg, Nat.reduceAdd, Nat.reduceMul, Nat.reducePow, Tryd.underlying34]
  refine hK _ _ ?_
  clear hK K
  with_reducible refine vc_seq fun K hK => ?_
  with_reducible refine vc_reg ?_
  simp only [go_sem, opsV, undef, binV_int, binV_eqB, binV_neB, pbin_int, pbin_eqB, pbin_neB, intV, arith, unV_not, unV_neg, Nat.reduceBEq, Nat.reduceEqDiff, ↓reduceIte, reduceCtorEq, Int.reduceToNat, Nat.reduceLeDiff, Int.reduceLE, Int.reduceLT, Int.reducePow, Int.reduceNeg, Nat.reduceAdd, Nat.reduceMul, Nat.reducePow, Tryd.underlying34]
  refine hK _ _ ?_
  clear hK K
  with_reducible refine vc_seq fun K hK => ?_
  with_reducible refine vc_seq fun K hK => ?_
  with_reducible refine vc_reg ?_
  simp only [go_sem, opsV, undef, binV_int, binV_eqB, binV_neB, pbin_int, pbin_eqB, pbin_neB, intV, arith, unV_not, unV_neg, Nat.reduceBEq, Nat.reduceEqDiff, ↓reduceIte, reduceCtorEq, Int.reduceToNat, Nat.reduceLeDiff, Int.reduceLE, Int.reduceLT, Int.reducePow, Int.reduceNeg, Nat.reduceAdd, Nat.reduceMul, Nat.reducePow, Tryd.underlying34]
  refine hK _ _ ?_
  clear hK K
  have J : ∀ (e : Env) (w' : World) (so : Value) (os : List Nat), e 3 = so → O64 w' w.heap.size so os → Ext w w' → nval 18446744073709551616 os = n → os.length = (xs.length + 1) / 2 → K e w' := by
    intro e w' so os g3 own hE h1 h2
    refine hK _ _ ?_
    clear hK K
    with_reducible refine vc_seq fun K hK => ?_
    refine vc_reg ?_
    try simp only [go_sem, opsV, undef, binV_int, binV_eqB, binV_neB, pbin_int, pbin_eqB, pbin_neB, intV, arith, unV_not, unV_neg, Nat.reduceBEq, Nat.reduceEqDiff, ↓reduceIte, reduceCtorEq, Int.reduceToNat, Nat.reduceLeDiff, Int.reduceLE, Int.reduceLT, Int.reducePow, Int.reduceNeg, Nat.reduceAdd, Nat.reduceMul, Nat.reducePow, g3]
    refine hK _ _ ?_
    clear hK K
    refine vc_ret ?_
    simp only [retV, resL, one, go_sem, opsV, undef, binV_int, binV_eqB, binV_neB, pbin_int, pbin_eqB, pbin_neB, intV, arith, unV_not, unV_neg, Nat.reduceBEq, Nat.reduceEqDiff, ↓reduceIte, reduceCtorEq, Int.reduceToNat, Nat.reduceLeDiff, Int.reduceLE, Int.reduceLT, Int.reducePow, Int.reduceNeg, Nat.reduceAdd, Nat.reduceMul, Nat.reducePow, g3]
    have := own.ws
    rw [hW os h1 own.lt h2] at this
    exact ⟨hE, this⟩
  refine vc_block ?_
  refine vc_loop (fun e w' => ∃ (so : Value) (os : List Nat) (k : Nat), 2 * k ≤ xs.length + 1 ∧ O64 w' w.heap.size so os ∧ os.length = k ∧ nval 18446744073709551616 os = nval 4294967296 (xs.take (2 * k)) ∧ Ext w w' ∧ e 0 = v ∧ e 3 = so ∧ e 4 = .int .i64 ((2 * k : Nat) : Int)) (fun e _ => xs.length + 2 - (intOf (e 4)).toNat) ?_ ?_
  · refine ⟨.slice none 0 0, [], 0, by omega, ⟨⟨rfl, .inl ⟨rfl, rfl⟩⟩, by simp, by simp⟩, rfl, rfl, Ext.refl _, ?_⟩
    try simp only [go_sem, opsV, undef, binV_int, binV_eqB, binV_neB, pbin_int, pbin_eqB, pbin_neB, intV, arith, unV_not, unV_neg, Nat.reduceBEq, Nat.reduceEqDiff, ↓reduceIte, reduceCtorEq, Int.reduceToNat, Nat.reduceLeDiff, Int.reduceLE, Int.reduceLT, Int.reducePow, Int.reduceNeg, Nat.reduceAdd, Nat.reduceMul, Nat.reducePow, true_and]
    rfl
  · rintro e w' ⟨so, os, k, hk, own, hol, hv, hE, g0, g3, g4⟩
    have hmz : (intOf (e 4)).toNat = 2 * k := by rw [g4]; rfl
    refine vc_seq fun K1 hK1 => ?_
    refine vc_seq fun K2 hK2 => ?_
    refine vc_reg ?_
    try simp only [go_sem, opsV, undef, binV_int, binV_eqB, binV_neB, pbin_int, pbin_eqB, pbin_neB, intV, arith, unV_not, unV_neg, Nat.reduceBEq, Nat.reduceEqDiff, ↓reduceIte, reduceCtorEq, Int.reduceToNat, Nat.reduceLeDiff, Int.reduceLE, Int.reduceLT, Int.reducePow, Int.reduceNeg, Nat.reduceAdd, Nat.reduceMul, Nat.reducePow, Tryd.underlying34, Tryd.underlying22, g0, g3, g4]
    refine ⟨_, (h.up hE).len, ?_⟩
    try simp only [go_sem, opsV, undef, binV_int, binV_eqB, binV_neB, pbin_int, pbin_eqB, pbin_neB, intV, arith, unV_not, unV_neg, Nat.reduceBEq, Nat.reduceEqDiff, ↓reduceIte, reduceCtorEq, Int.reduceToNat, Nat.reduceLeDiff, Int.reduceLE, Int.reduceLT, Int.reducePow, Int.reduceNeg, Nat.reduceAdd, Nat.reduceMul, Nat.reducePow, Tryd.underlying34, Tryd.underlying22, g0, g3, g4]
    refine hK2 _ _ ?_
    clear hK2
    refine vc_condD (by simp only [go_sem, opsV, undef, binV_int, binV_eqB, binV_neB, pbin_int, pbin_eqB, pbin_neB, intV, arith, unV_not, unV_neg, Nat.reduceBEq, Nat.reduceEqDiff, ↓reduceIte, reduceCtorEq, Int.reduceToNat, Nat.reduceLeDiff, Int.reduceLE, Int.reduceLT, Int.reducePow, Int.reduceNeg, Nat.reduceAdd, Nat.reduceMul, Nat.reducePow, Tryd.underlying34, Tryd.underlying22, g0, g3, g4] <;> rfl) (fun ht => ?_) (fun ht => ?_)
    · refine vc_skip ?_
      refine hK1 _ _ ?_
      clear hK1
      refine vc_seq fun K1 hK1 => ?_
      refine vc_block ?_
      obtain ⟨ad, hix, hld⟩ := (h.up hE).get32 (k := .i64) (i := 2 * k) ht
      have hx := h.lt (by decide) (2 * k)
      have hx' : xs.getD (2 * k) 0 < 18446744073709551616 := Nat.lt_trans hx (by decide)
      have hy := h.lt (by decide) (2 * k + 1)
      have hy' : xs.getD (2 * k + 1) 0 < 18446744073709551616 := Nat.lt_trans hy (by decide)
      refine vc_seq fun K2 hK2 => ?_
      refine vc_reg ?_
      try simp only [go_sem, opsV, undef, binV_int, binV_eqB, binV_neB, pbin_int, pbin_eqB, pbin_neB, intV, arith, unV_not, unV_neg, Nat.reduceBEq, Nat.reduceEqDiff, ↓reduceIte, reduceCtorEq, Int.reduceToNat, Nat.reduceLeDiff, Int.reduceLE, Int.reduceLT, Int.reducePow, Int.reduceNeg, Nat.reduceAdd, Nat.reduceMul, Nat.reducePow, Tryd.underlying34, Tryd.underlying22, g0, g3, g4, convV_int Tryd.underlying54, Tryd.underlying75, Option.isSome_some, Nat.mod_eq_of_lt hx', Nat.mod_eq_of_lt hy', pconv_int Tryd.underlying54]
      refine ⟨ad, hix, _, hld _ (Ext.refl _), ?_⟩
      try simp only [go_sem, opsV, undef, binV_int, binV_eqB, binV_neB, pbin_int, pbin_eqB, pbin_neB, intV, arith, unV_not, unV_neg, Nat.reduceBEq, Nat.reduceEqDiff, ↓reduceIte, reduceCtorEq, Int.reduceToNat, Nat.reduceLeDiff, Int.reduceLE, Int.reduceLT, Int.reducePow, Int.reduceNeg, Nat.reduceAdd, Nat.reduceMul, Nat.reducePow, Tryd.underlying34, Tryd.underlying22, g0, g3, g4, convV_int Tryd.underlying54, Tryd.underlying75, Option.isSome_some, Nat.mod_eq_of_lt hx', Nat.mod_eq_of_lt hy', pconv_int Tryd.underlying54]
      refine hK2 _ _ ?_
      clear hK2
      refine vc_seq fun K2 hK2 => ?_
      have J2 : ∀ (e : Env) (x : Nat), x = xs.getD (2 * k) 0 + 4294967296 * xs.getD (2 * k + 1) 0 → e 0 = v → e 3 = so → e 4 = .int .i64 ((2 * k : Nat) : Int) → e 5 = .int .u64 (x : Int) → K2 e w' := by
        intro e x hxe g0 g3 g4 g5
        have hmz2 : (intOf (e 4)).toNat = 2 * k := by rw [g4]; rfl
        refine hK2 _ _ ?_
        clear hK2
        refine vc_reg ?_
        try simp only [go_sem, opsV, undef, binV_int, binV_eqB, binV_neB, pbin_int, pbin_eqB, pbin_neB, intV, arith, unV_not, unV_neg, Nat.reduceBEq, Nat.reduceEqDiff, ↓reduceIte, reduceCtorEq, Int.reduceToNat, Nat.reduceLeDiff, Int.reduceLE, Int.reduceLT, Int.reducePow, Int.reduceNeg, Nat.reduceAdd, Nat.reduceMul, Nat.reducePow, Tryd.underlying22, g0, g3, g4, g5]
        obtain ⟨b2, w2, hs, hn2⟩ := slice_lit (w := w') T64 [.int .u64 (x : Int)] (by simp [Value.cells]) (by simp)
        refine ⟨_, w2, hs, ?_⟩
        have hr : U64s w2.heap (.slice (some ⟨b2, 0, none⟩) 1 1) [x] := by
          have := own_row (w := w2) hn2.row (n := 1) (cap := 1) (by simp [Value.cells]) (Nat.le_refl _) (by omega)
          exact own_ws (by simpa [wc, Value.cells] using this) (by intro y hy; simp only [List.mem_singleton] at hy; omega) (by simp)
        have hE2 := hE.trans' hn2.ext
        obtain ⟨v', w3, hap, own3, hE3⟩ := (own.up hn2.ext).append (P := Tryd.prog) T64 rfl hE2.size hr (by simp [hol]; omega) (by simp [hol]; omega) (t' := 22) rfl (ty := 22)
        refine ⟨v', w3, hap, ?_⟩
        try simp only [go_sem, opsV, undef, binV_int, binV_eqB, binV_neB, pbin_int, pbin_eqB, pbin_neB, intV, arith, unV_not, unV_neg, Nat.reduceBEq, Nat.reduceEqDiff, ↓reduceIte, reduceCtorEq, Int.reduceToNat, Nat.reduceLeDiff, Int.reduceLE, Int.reduceLT, Int.reducePow, Int.reduceNeg, Nat.reduceAdd, Nat.reduceMul, Nat.reducePow, Tryd.underlying22, g0, g3, g4, g5]
        refine hK1 _ _ ?_
        refine vc_reg ?_
        try simp only [go_sem, opsV, undef, binV_int, binV_eqB, binV_neB, pbin_int, pbin_eqB, pbin_neB, intV, arith, unV_not, unV_neg, Nat.reduceBEq, Nat.reduceEqDiff, ↓reduceIte, reduceCtorEq, Int.reduceToNat, Nat.reduceLeDiff, Int.reduceLE, Int.reduceLT, Int.reducePow, Int.reduceNeg, Nat.reduceAdd, Nat.reduceMul, Nat.reducePow, Tryd.underlying22, g0, g3, g4, g5]
        refine ⟨(by unfold R64; omega), ⟨v', os ++ [x], k + 1, by omega, own3, by simp [hol], ?_, hE3 _ hE2, ?_⟩, ?_⟩
        · rw [nval_append, hv, hol, show (18446744073709551616 : Nat) = 4294967296 ^ 2 from rfl, ← Nat.pow_mul, hxe]
          rw [show 2 * (k + 1) = 2 * k + 1 + 1 by omega, List.take_add_one, take_one ht, nval_append, nval_append]
          have hpl : (xs.take (2 * k)).length = 2 * k := by rw [List.length_take]; omega
          by_cases h2 : 2 * k + 1 < xs.length
          · simp only [List.getElem?_eq_getElem h2, List.getD, Option.getD_some, Option.toList_some, nval, List.length_append, hpl, List.length_singleton, Nat.mul_zero, Nat.add_zero]
            rw [Nat.mul_add, Nat.pow_succ, Nat.mul_assoc, Nat.add_assoc]
          · simp only [List.getElem?_eq_none (Nat.le_of_not_lt h2), List.getD, Option.getD_none, Option.toList_none, nval, hpl, Nat.mul_zero, Nat.add_zero]
        · first | exact ⟨trivial, rfl⟩ | exact ⟨rfl, rfl⟩ | rfl
        · rw [hmz]
          simp only [intOf]; omega
      clear hK1
      refine vc_seq fun K3 hK3 => ?_
      refine vc_reg ?_
      try simp only [go_sem, opsV, undef, binV_int, binV_eqB, binV_neB, pbin_int, pbin_eqB, pbin_neB, intV, arith, unV_not, unV_neg, Nat.reduceBEq, Nat.reduceEqDiff, ↓reduceIte, reduceCtorEq, Int.reduceToNat, Nat.reduceLeDiff, Int.reduceLE, Int.reduceLT, Int.reducePow, Int.reduceNeg, Nat.reduceAdd, Nat.reduceMul, Nat.reducePow, Tryd.underlying34, Tryd.underlying22, g0, g3, g4, convV_int Tryd.underlying54, Tryd.underlying75, Option.isSome_some, Nat.mod_eq_of_lt hx', Nat.mod_eq_of_lt hy', pconv_int Tryd.underlying54, shl32]
      refine ⟨(by unfold R64; omega), _, (h.up hE).len, ?_⟩
      try simp only [go_sem, opsV, undef, binV_int, binV_eqB, binV_neB, pbin_int, pbin_eqB, pbin_neB, intV, arith, unV_not, unV_neg, Nat.reduceBEq, Nat.reduceEqDiff, ↓reduceIte, reduceCtorEq, Int.reduceToNat, Nat.reduceLeDiff, Int.reduceLE, Int.reduceLT, Int.reducePow, Int.reduceNeg, Nat.reduceAdd, Nat.reduceMul, Nat.reducePow, Tryd.underlying34, Tryd.underlying22, g0, g3, g4, convV_int Tryd.underlying54, Tryd.underlying75, Option.isSome_some, Nat.mod_eq_of_lt hx', Nat.mod_eq_of_lt hy', pconv_int Tryd.underlying54, shl32]
      refine hK3 _ _ ?_
      clear hK3
      refine vc_condD (by simp only [go_sem, opsV, undef, binV_int, binV_eqB, binV_neB, pbin_int, pbin_eqB, pbin_neB, intV, arith, unV_not, unV_neg, Nat.reduceBEq, Nat.reduceEqDiff, ↓reduceIte, reduceCtorEq, Int.reduceToNat, Nat.reduceLeDiff, Int.reduceLE, Int.reduceLT, Int.reducePow, Int.reduceNeg, Nat.reduceAdd, Nat.reduceMul, Nat.reducePow, Tryd.underlying34, Tryd.underlying22, g0, g3, g4, convV_int Tryd.underlying54, Tryd.underlying75, Option.isSome_some, Nat.mod_eq_of_lt hx', Nat.mod_eq_of_lt hy', pconv_int Tryd.underlying54, shl32] <;> rfl) (fun h2 => ?_) (fun h2 => ?_)
      · obtain ⟨bd, hib, hlb⟩ := (h.up hE).get32 (k := .i64) (i := 2 * k + 1) h2
        refine vc_reg ?_
        try simp only [go_sem, opsV, undef, binV_int, binV_eqB, binV_neB, pbin_int, pbin_eqB, pbin_neB, intV, arith, unV_not, unV_neg, Nat.reduceBEq, Nat.reduceEqDiff, ↓reduceIte, reduceCtorEq, Int.reduceToNat, Nat.reduceLeDiff, Int.reduceLE, Int.reduceLT, Int.reducePow, Int.reduceNeg, Nat.reduceAdd, Nat.reduceMul, Nat.reducePow, Tryd.underlying34, Tryd.underlying22, g0, g3, g4, convV_int Tryd.underlying54, Tryd.underlying75, Option.isSome_some, Nat.mod_eq_of_lt hx', Nat.mod_eq_of_lt hy', pconv_int Tryd.underlying54, shl32]
        refine ⟨(by unfold R64; omega), bd, hib, _, hlb _ (Ext.refl _), ?_⟩
        try simp only [go_sem, opsV, undef, binV_int, binV_eqB, binV_neB, pbin_int, pbin_eqB, pbin_neB, intV, arith, unV_not, unV_neg, Nat.reduceBEq, Nat.reduceEqDiff, ↓reduceIte, reduceCtorEq, Int.reduceToNat, Nat.reduceLeDiff, Int.reduceLE, Int.reduceLT, Int.reducePow, Int.reduceNeg, Nat.reduceAdd, Nat.reduceMul, Nat.reducePow, Tryd.underlying34, Tryd.underlying22, g0, g3, g4, convV_int Tryd.underlying54, Tryd.underlying75, Option.isSome_some, Nat.mod_eq_of_lt hx', Nat.mod_eq_of_lt hy', pconv_int Tryd.underlying54, shl32]
        rw [or64_nat _ _ hx' (mod64 _), or_shift32 hx hy]
        refine J2 _ _ rfl ?_ ?_ ?_ ?_
        all_goals try simp only [go_sem, opsV, undef, binV_int, binV_eqB, binV_neB, pbin_int, pbin_eqB, pbin_neB, intV, arith, unV_not, unV_neg, Nat.reduceBEq, Nat.reduceEqDiff, ↓reduceIte, reduceCtorEq, Int.reduceToNat, Nat.reduceLeDiff, Int.reduceLE, Int.reduceLT, Int.reducePow, Int.reduceNeg, Nat.reduceAdd, Nat.reduceMul, Nat.reducePow, Tryd.underlying34, Tryd.underlying22, g0, g3, g4, convV_int Tryd.underlying54, Tryd.underlying75, Option.isSome_some, Nat.mod_eq_of_lt hx', Nat.mod_eq_of_lt hy', pconv_int Tryd.underlying54, shl32]
      · refine vc_skip ?_
        refine J2 _ (xs.getD (2 * k) 0) ?_ ?_ ?_ ?_ ?_
        · simp [List.getD, List.getElem?_eq_none (Nat.le_of_not_lt h2)]
        all_goals try simp only [go_sem, opsV, undef, binV_int, binV_eqB, binV_neB, pbin_int, pbin_eqB, pbin_neB, intV, arith, unV_not, unV_neg, Nat.reduceBEq, Nat.reduceEqDiff, ↓reduceIte, reduceCtorEq, Int.reduceToNat, Nat.reduceLeDiff, Int.reduceLE, Int.reduceLT, Int.reducePow, Int.reduceNeg, Nat.reduceAdd, Nat.reduceMul, Nat.reducePow, Tryd.underlying34, Tryd.underlying22, g0, g3, g4, convV_int Tryd.underlying54, Tryd.underlying75, Option.isSome_some, Nat.mod_eq_of_lt hx', Nat.mod_eq_of_lt hy', pconv_int Tryd.underlying54, shl32]
    · refine vc_exit ?_
      simp only [↓reduceIte]
      rw [List.take_of_length_le (by omega)] at hv
      exact J _ _ so os (by try simp only [go_sem, opsV, undef, binV_int, binV_eqB, binV_neB, pbin_int, pbin_eqB, pbin_neB, intV, arith, unV_not, unV_neg, Nat.reduceBEq, Nat.reduceEqDiff, ↓reduceIte, reduceCtorEq, Int.reduceToNat, Nat.reduceLeDiff, Int.reduceLE, Int.reduceLT, Int.reducePow, Int.reduceNeg, Nat.reduceAdd, Nat.reduceMul, Nat.reducePow, Tryd.underlying34, g0, g3, g4]) own hE (hv.trans hn) (by omega)

end Go.V
