/- The walks of the document's own numbers: Bits, Zeros; of the helps: Words; of few. -/
import Derived.Test.YtkmoeenhboicmaaDoorR1
set_option linter.unusedSimpArgs false
set_option linter.unusedVariables false
set_option maxRecDepth 100000

namespace Go.V
open Go Go.RowKit Go.Proofs

theorem bitLen_half {x : Nat} (h : x ≠ 0) : bitLen x = bitLen (x / 2) + 1 := by
  obtain ⟨a1, a2⟩ := bitLen_spec (x / 2)
  apply bitLen_unique
  · rw [Nat.pow_succ]; omega
  · intro _
    rw [Nat.add_sub_cancel]
    by_cases h2 : x / 2 = 0
    · rw [h2, bitLen_zero]; omega
    · have := a2 h2
      have hp := bitLen_pos h2
      rw [show bitLen (x / 2) = bitLen (x / 2) - 1 + 1 by omega, Nat.pow_succ]
      omega
theorem bits_digs {n m x : Nat} (hm : (D32 n).length = m + 1) (hx : x = (D32 n).getD m 0) : bitLen n = 32 * m + bitLen x := by
  have hlast : (D32 n).getD m 0 ≠ 0 := by
    refine digs_noTail two32 n _ ?_
    rw [List.getLast?_eq_getElem?, hm]
    simp [List.getD, hm]
  have e := nval_last (B := 4294967296) (xs := D32 n) (by intro h0; rw [h0] at hm; simp at hm)
  rw [nval_digs two32, hm, Nat.add_sub_cancel] at e
  have hlow := nval_lt (B := 4294967296) (by decide) ((D32 n).take m) (fun x hx => digs_lt two32 n x (List.mem_of_mem_take hx))
  rw [List.length_take, hm, Nat.min_eq_left (by omega), show (4294967296 : Nat) = 2 ^ 32 from rfl, ← Nat.pow_mul] at hlow
  have hb := bitLen_top (b := 32) (m := m) hlast hlow
  rw [show (2 : Nat) ^ (32 * m) = 4294967296 ^ m by rw [Nat.pow_mul]] at hb
  rw [show nval (2 ^ 32) (List.take m (D32 n)) + 4294967296 ^ m * (D32 n).getD m 0 = n from e.symm] at hb
  rw [hb, hx]
theorem and1 {x : Nat} (h : x < 4294967296) : bitsV .and .u32 (x : Int) 1 = ((x % 2 : Nat) : Int) := by
  have := and32_nat x 1 h (by decide)
  rw [show ((1 : Nat) : Int) = 1 from rfl] at this
  rw [this, Nat.and_one_is_mod]
theorem tz_even {x : Nat} (h0 : x ≠ 0) (h : x % 2 = 0) : tz x = 1 + tz (x / 2) := by
  have := tz_double (n := x / 2) (by omega)
  rwa [show 2 * (x / 2) = x by omega] at this


theorem r_Zeros_l1 {w : World} {N : Env → World → Prop} {X : Nat → Env → World → Prop} {R : Env → World → Prop} {T : Nat} (hT : T ≤ 281474976710656) (J : ∀ e : Env, e 3 = .int .i64 (T : Int) → X 2 e w) (e : Env) (c x : Nat) (hx0 : x ≠ 0) (hx : x < 4294967296) (hc : c + tz x = T) (g3 : e 3 = .int .i64 (c : Int)) (g5 : e 5 = .int .u32 (x : Int)) :
    vc Tryd.prog (nthLoop Tryd.f48 1) N X R e w := by
  change vc _ (.loop _) _ _ _ _ _
  refine vc_loop (fun e w' => w' = w ∧ ∃ c x : Nat, x ≠ 0 ∧ x < 4294967296 ∧ c + tz x = T ∧ e 3 = .int .i64 (c : Int) ∧ e 5 = .int .u32 (x : Int)) (fun e _ => (intOf (e 5)).toNat) ⟨rfl, c, x, hx0, hx, hc, g3, g5⟩ ?_
  clear hx0 hx hc g3 g5
  clear c x e
  rintro e w' ⟨rfl, c, x, hx0, hx, hc, g3, g5⟩
  have hmz : (intOf (e 5)).toNat = x := by rw [g5]; rfl
  refine vc_seq fun K1 hK1 => ?_
  refine vc_seq fun K2 hK2 => ?_
  refine vc_reg ?_
  try simp only [go_sem, opsV, undef, binV_int, binV_eqB, binV_neB, pbin_int, pbin_eqB, pbin_neB, intV, arith, unV_not, unV_neg, Nat.reduceBEq, Nat.reduceEqDiff, ↓reduceIte, reduceCtorEq, Int.reduceToNat, Nat.reduceLeDiff, Int.reduceLE, Int.reduceLT, Int.reducePow, Int.reduceNeg, Nat.reduceAdd, Nat.reduceMul, Nat.reducePow, Tryd.underlying34, g3, g5, and1 hx]
  refine hK2 _ _ ?_
  clear hK2
  refine vc_condD (by simp only [go_sem, opsV, undef, binV_int, binV_eqB, binV_neB, pbin_int, pbin_eqB, pbin_neB, intV, arith, unV_not, unV_neg, Nat.reduceBEq, Nat.reduceEqDiff, ↓reduceIte, reduceCtorEq, Int.reduceToNat, Nat.reduceLeDiff, Int.reduceLE, Int.reduceLT, Int.reducePow, Int.reduceNeg, Nat.reduceAdd, Nat.reduceMul, Nat.reducePow, Tryd.underlying34, g3, g5, and1 hx] <;> rfl) (fun ht => ?_) (fun ht => ?_)
  · have hh := tz_even hx0 (by omega)
    refine vc_skip ?_
    refine hK1 _ _ ?_
    clear hK1
    refine vc_seq fun K1 hK1 => ?_
    refine vc_block ?_
    refine vc_reg ?_
    try simp only [go_sem, opsV, undef, binV_int, binV_eqB, binV_neB, pbin_int, pbin_eqB, pbin_neB, intV, arith, unV_not, unV_neg, Nat.reduceBEq, Nat.reduceEqDiff, ↓reduceIte, reduceCtorEq, Int.reduceToNat, Nat.reduceLeDiff, Int.reduceLE, Int.reduceLT, Int.reducePow, Int.reduceNeg, Nat.reduceAdd, Nat.reduceMul, Nat.reducePow, Tryd.underlying34, g3, g5, and1 hx]
    refine ⟨(by unfold R64; omega), ?_⟩
    refine hK1 _ _ ?_
    refine vc_reg ?_
    try simp only [go_sem, opsV, undef, binV_int, binV_eqB, binV_neB, pbin_int, pbin_eqB, pbin_neB, intV, arith, unV_not, unV_neg, Nat.reduceBEq, Nat.reduceEqDiff, ↓reduceIte, reduceCtorEq, Int.reduceToNat, Nat.reduceLeDiff, Int.reduceLE, Int.reduceLT, Int.reducePow, Int.reduceNeg, Nat.reduceAdd, Nat.reduceMul, Nat.reducePow, Tryd.underlying34, g3, g5, and1 hx]
    refine ⟨⟨c + 1, x / 2, by omega, by omega, by omega, ?_⟩, ?_⟩
    · try simp only [go_sem, opsV, undef, binV_int, binV_eqB, binV_neB, pbin_int, pbin_eqB, pbin_neB, intV, arith, unV_not, unV_neg, Nat.reduceBEq, Nat.reduceEqDiff, ↓reduceIte, reduceCtorEq, Int.reduceToNat, Nat.reduceLeDiff, Int.reduceLE, Int.reduceLT, Int.reducePow, Int.reduceNeg, Nat.reduceAdd, Nat.reduceMul, Nat.reducePow, Tryd.underlying34, g3, g5, and1 hx]
    · (try rw [hmz])
      simp only [intOf]; omega
  · have hh := tz_odd (n := x) (by omega)
    refine vc_exit ?_
    refine J _ ?_
    try simp only [go_sem, opsV, undef, binV_int, binV_eqB, binV_neB, pbin_int, pbin_eqB, pbin_neB, intV, arith, unV_not, unV_neg, Nat.reduceBEq, Nat.reduceEqDiff, ↓reduceIte, reduceCtorEq, Int.reduceToNat, Nat.reduceLeDiff, Int.reduceLE, Int.reduceLT, Int.reducePow, Int.reduceNeg, Nat.reduceAdd, Nat.reduceMul, Nat.reducePow, Tryd.underlying34, g3, g5, and1 hx]
    rw [← hc, hh]; rfl

set_option maxHeartbeats 400000 in
theorem r_Zeros {w : World} {v : Value} {n : Nat} (h : U32s w.heap v (D32 n)) (hl : (D32 n).length ≤ 1099511627776) : FC Tryd.prog 48 #[v] w fun r w' => Ext w w' ∧ r = .int .i64 ((tz n : Nat) : Int) := by
  have hn : nval 4294967296 (D32 n) = n := nval_digs two32 n
  generalize D32 n = xs at *
  refine FC.body (l := [v]) (rs := [.tmp 2]) mixed Tryd.func48 rfl (by kernel_rfl) (by kernel_rfl) (Nat.le_of_ble_eq_true rfl) rfl ?_
  with_reducible refine vc_seq fun K hK => ?_
  with_reducible refine vc_reg ?_
  simp only [go_sem, opsV, undef, binV_int, binV_eqB, binV_neB, pbin_int, pbin_eqB, pbin_neB, intV, arith, unV_not, unV_neg, Nat.reduceBEq, Nat.reduceEqDiff, ↓reduceIte, reduceCtorEq, Int.reduceToNat, Nat.reduceLeDiff, Int.reduceLE, Int.reduceLT, Int.reducePow, Int.reduceNeg, Nat.reduceAdd, Nat.reduceMul, Nat.reducePow, Tryd.underlying34]
  refine hK _ _ ?_
  clear hK K
  with_reducible refine vc_seq fun K hK => ?_
  with_reducible refine vc_reg ?_
  simp only [go_sem, opsV, undef, binV_int, binV_eqB, binV_neB, pbin_int, pbin_eqB, pbin_neB, intV, arith, unV_not, unV_neg, Nat.reduceBEq, Nat.reduceEqDiff, ↓reduceIte, reduceCtorEq, Int.reduceToNat, Nat.reduceLeDiff, Int.reduceLE, Int.reduceLT, Int.reducePow, Int.reduceNeg, Nat.reduceAdd, Nat.reduceMul, Nat.reducePow, Tryd.underlying34]
  refine hK _ _ ?_
  clear hK K
  with_reducible refine vc_seq fun K hK => ?_
  with_reducible refine vc_seq fun K hK => ?_
  with_reducible refine vc_reg ?_
  simp only [go_sem, opsV, undef, binV_int, binV_eqB, binV_neB, pbin_int, pbin_eqB, pbin_neB, intV, arith, unV_not, unV_neg, Nat.reduceBEq, Nat.reduceEqDiff, ↓reduceIte, reduceCtorEq, Int.reduceToNat, Nat.reduceLeDiff, Int.reduceLE, Int.reduceLT, Int.reducePow, Int.reduceNeg, Nat.reduceAdd, Nat.reduceMul, Nat.reducePow, Tryd.underlying34]
  refine hK _ _ ?_
  clear hK K
  have J : ∀ (e : Env), (∀ j, j < xs.length → xs.getD j 0 = 0) → K e w := by
    rintro e hz
    repeat (first
      | (with_reducible refine vc_seq fun K hK => ?_)
      | (with_reducible refine vc_reg ?_)
      | (with_reducible refine vc_skip ?_)
      | (with_reducible refine vc_block ?_)
      | (with_reducible refine vc_scope ?_)
      | (with_reducible refine vc_label ?_)
      | (with_reducible refine vc_condT ?_ ?_; · simp only [go_sem, opsV, undef, binV_int, binV_eqB, binV_neB, pbin_int, pbin_eqB, pbin_neB, intV, arith, unV_not, unV_neg, Nat.reduceBEq, Nat.reduceEqDiff, ↓reduceIte, reduceCtorEq, Int.reduceToNat, Nat.reduceLeDiff, Int.reduceLE, Int.reduceLT, Int.reducePow, Int.reduceNeg, Nat.reduceAdd, Nat.reduceMul, Nat.reducePow, Tryd.underlying34] <;> rfl)
      | (with_reducible refine vc_condF ?_ ?_; · simp only [go_sem, opsV, undef, binV_int, binV_eqB, binV_neB, pbin_int, pbin_eqB, pbin_neB, intV, arith, unV_not, unV_neg, Nat.reduceBEq, Nat.reduceEqDiff, ↓reduceIte, reduceCtorEq, Int.reduceToNat, Nat.reduceLeDiff, Int.reduceLE, Int.reduceLT, Int.reducePow, Int.reduceNeg, Nat.reduceAdd, Nat.reduceMul, Nat.reducePow, Tryd.underlying34] <;> rfl)
      | (with_reducible refine vc_exit ?_; simp only [↓reduceIte, Nat.reduceEqDiff])
      | (with_reducible refine vc_ret ?_; simp only [retV, resL, one])
      | (with_reducible refine hK _ _ ?_; clear hK)
      | (clear hK; with_reducible refine hK _ _ ?_; clear hK)
      | (clear hK; clear hK; with_reducible refine hK _ _ ?_; clear hK)
      | (simp only [go_sem, opsV, undef, binV_int, binV_eqB, binV_neB, pbin_int, pbin_eqB, pbin_neB, intV, arith, unV_not, unV_neg, Nat.reduceBEq, Nat.reduceEqDiff, ↓reduceIte, reduceCtorEq, Int.reduceToNat, Nat.reduceLeDiff, Int.reduceLE, Int.reduceLT, Int.reducePow, Int.reduceNeg, Nat.reduceAdd, Nat.reduceMul, Nat.reducePow, Tryd.underlying34]))
    exact ⟨Ext.refl _, by rw [← hn, nval_none hz, tz_zero]; rfl⟩
  refine vc_block ?_
  refine vc_loop (fun e w' => w' = w ∧ ∃ k : Nat, k ≤ xs.length ∧ e 0 = v ∧ e 3 = .int .i64 ((32 * k : Nat) : Int) ∧ e 4 = .int .i64 (k : Int) ∧ ∀ j, j < k → xs.getD j 0 = 0) (fun e _ => xs.length - (intOf (e 4)).toNat) ?_ ?_
  · refine ⟨rfl, 0, Nat.zero_le _, ?_⟩
    try simp only [go_sem, opsV, undef, binV_int, binV_eqB, binV_neB, pbin_int, pbin_eqB, pbin_neB, intV, arith, unV_not, unV_neg, Nat.reduceBEq, Nat.reduceEqDiff, ↓reduceIte, reduceCtorEq, Int.reduceToNat, Nat.reduceLeDiff, Int.reduceLE, Int.reduceLT, Int.reducePow, Int.reduceNeg, Nat.reduceAdd, Nat.reduceMul, Nat.reducePow, true_and]
    exact ⟨rfl, rfl, fun j hj => absurd hj (Nat.not_lt_zero j)⟩
  · rintro e w' ⟨rfl, k, hk, g0, g3, g4, hz⟩
    have hmz : (intOf (e 4)).toNat = k := by rw [g4]; rfl
    refine vc_seq fun K1 hK1 => ?_
    refine vc_seq fun K2 hK2 => ?_
    refine vc_reg ?_
    try simp only [go_sem, opsV, undef, binV_int, binV_eqB, binV_neB, pbin_int, pbin_eqB, pbin_neB, intV, arith, unV_not, unV_neg, Nat.reduceBEq, Nat.reduceEqDiff, ↓reduceIte, reduceCtorEq, Int.reduceToNat, Nat.reduceLeDiff, Int.reduceLE, Int.reduceLT, Int.reducePow, Int.reduceNeg, Nat.reduceAdd, Nat.reduceMul, Nat.reducePow, Tryd.underlying34, g0, g3, g4]
    refine ⟨_, h.len, ?_⟩
    try simp only [go_sem, opsV, undef, binV_int, binV_eqB, binV_neB, pbin_int, pbin_eqB, pbin_neB, intV, arith, unV_not, unV_neg, Nat.reduceBEq, Nat.reduceEqDiff, ↓reduceIte, reduceCtorEq, Int.reduceToNat, Nat.reduceLeDiff, Int.reduceLE, Int.reduceLT, Int.reducePow, Int.reduceNeg, Nat.reduceAdd, Nat.reduceMul, Nat.reducePow, Tryd.underlying34, g0, g3, g4]
    refine hK2 _ _ ?_
    clear hK2
    refine vc_condD (by simp only [go_sem, opsV, undef, binV_int, binV_eqB, binV_neB, pbin_int, pbin_eqB, pbin_neB, intV, arith, unV_not, unV_neg, Nat.reduceBEq, Nat.reduceEqDiff, ↓reduceIte, reduceCtorEq, Int.reduceToNat, Nat.reduceLeDiff, Int.reduceLE, Int.reduceLT, Int.reducePow, Int.reduceNeg, Nat.reduceAdd, Nat.reduceMul, Nat.reducePow, Tryd.underlying34, g0, g3, g4] <;> rfl) (fun ht => ?_) (fun ht => ?_)
    · refine vc_skip ?_
      refine hK1 _ _ ?_
      clear hK1
      refine vc_seq fun K1 hK1 => ?_
      refine vc_block ?_
      refine vc_seq fun K2 hK2 => ?_
      refine vc_seq fun K3 hK3 => ?_
      obtain ⟨ad, ha, hld⟩ := h.get32 (k := .i64) (i := k) ht
      have hxl := h.lt (by decide) k
      refine vc_reg ?_
      try simp only [go_sem, opsV, undef, binV_int, binV_eqB, binV_neB, pbin_int, pbin_eqB, pbin_neB, intV, arith, unV_not, unV_neg, Nat.reduceBEq, Nat.reduceEqDiff, ↓reduceIte, reduceCtorEq, Int.reduceToNat, Nat.reduceLeDiff, Int.reduceLE, Int.reduceLT, Int.reducePow, Int.reduceNeg, Nat.reduceAdd, Nat.reduceMul, Nat.reducePow, Tryd.underlying34, g0, g3, g4]
      refine ⟨ad, ha, _, hld _ (Ext.refl _), ?_⟩
      try simp only [go_sem, opsV, undef, binV_int, binV_eqB, binV_neB, pbin_int, pbin_eqB, pbin_neB, intV, arith, unV_not, unV_neg, Nat.reduceBEq, Nat.reduceEqDiff, ↓reduceIte, reduceCtorEq, Int.reduceToNat, Nat.reduceLeDiff, Int.reduceLE, Int.reduceLT, Int.reducePow, Int.reduceNeg, Nat.reduceAdd, Nat.reduceMul, Nat.reducePow, Tryd.underlying34, g0, g3, g4]
      refine hK3 _ _ ?_
      clear hK3
      refine vc_condD (by simp only [go_sem, opsV, undef, binV_int, binV_eqB, binV_neB, pbin_int, pbin_eqB, pbin_neB, intV, arith, unV_not, unV_neg, Nat.reduceBEq, Nat.reduceEqDiff, ↓reduceIte, reduceCtorEq, Int.reduceToNat, Nat.reduceLeDiff, Int.reduceLE, Int.reduceLT, Int.reducePow, Int.reduceNeg, Nat.reduceAdd, Nat.reduceMul, Nat.reducePow, Tryd.underlying34, g0, g3, g4] <;> rfl) (fun hx => ?_) (fun hx => ?_)
      · clear hK2
        have e32 : ((32 * k : Nat) : Int) + 32 = ((32 * (k + 1) : Nat) : Int) := by omega
        refine vc_seq fun K2 hK2 => ?_
        refine vc_reg ?_
        try simp only [go_sem, opsV, undef, binV_int, binV_eqB, binV_neB, pbin_int, pbin_eqB, pbin_neB, intV, arith, unV_not, unV_neg, Nat.reduceBEq, Nat.reduceEqDiff, ↓reduceIte, reduceCtorEq, Int.reduceToNat, Nat.reduceLeDiff, Int.reduceLE, Int.reduceLT, Int.reducePow, Int.reduceNeg, Nat.reduceAdd, Nat.reduceMul, Nat.reducePow, Tryd.underlying34, g0, g3, g4, e32]
        refine ⟨(by unfold R64; omega), ?_⟩
        refine hK2 _ _ ?_
        refine vc_exit ?_
        simp only [↓reduceIte]
        refine hK1 _ _ ?_
        refine vc_reg ?_
        try simp only [go_sem, opsV, undef, binV_int, binV_eqB, binV_neB, pbin_int, pbin_eqB, pbin_neB, intV, arith, unV_not, unV_neg, Nat.reduceBEq, Nat.reduceEqDiff, ↓reduceIte, reduceCtorEq, Int.reduceToNat, Nat.reduceLeDiff, Int.reduceLE, Int.reduceLT, Int.reducePow, Int.reduceNeg, Nat.reduceAdd, Nat.reduceMul, Nat.reducePow, Tryd.underlying34, g0, g3, g4, e32]
        refine ⟨(by unfold R64; omega), ⟨k + 1, by omega, ?_⟩, ?_⟩
        · try simp only [go_sem, opsV, undef, binV_int, binV_eqB, binV_neB, pbin_int, pbin_eqB, pbin_neB, intV, arith, unV_not, unV_neg, Nat.reduceBEq, Nat.reduceEqDiff, ↓reduceIte, reduceCtorEq, Int.reduceToNat, Nat.reduceLeDiff, Int.reduceLE, Int.reduceLT, Int.reducePow, Int.reduceNeg, Nat.reduceAdd, Nat.reduceMul, Nat.reducePow, Tryd.underlying34, g0, g3, g4, e32]
          refine fun j hj => ?_
          rcases Nat.lt_or_ge j k with h' | h'
          · exact hz j h'
          · obtain rfl : j = k := by omega
            exact hx
        · (try rw [hmz])
          simp only [intOf]; omega
      · clear hK1
        have htz := tz_low (b := 32) (i := k) (r := nval 4294967296 (xs.drop (k + 1))) hx hxl
        rw [Nat.pow_mul, show (2 : Nat) ^ 32 = 4294967296 from rfl, ← nval_low ht hz, hn] at htz
        have hlt : tz (xs.getD k 0) < 32 := by
          obtain ⟨m, hm⟩ := tz_spec _ hx
          have : 2 ^ tz (xs.getD k 0) ≤ xs.getD k 0 := by
            conv => rhs; rw [hm]
            exact Nat.le_mul_of_pos_right _ (by omega)
          exact (Nat.pow_lt_pow_iff_right (by decide : 1 < 2)).1 (Nat.lt_of_le_of_lt this hxl)
        refine vc_skip ?_
        refine hK2 _ _ ?_
        clear hK2
        refine vc_seq fun K2 hK2 => ?_
        refine vc_seq fun K3 hK3 => ?_
        refine vc_reg ?_
        try simp only [go_sem, opsV, undef, binV_int, binV_eqB, binV_neB, pbin_int, pbin_eqB, pbin_neB, intV, arith, unV_not, unV_neg, Nat.reduceBEq, Nat.reduceEqDiff, ↓reduceIte, reduceCtorEq, Int.reduceToNat, Nat.reduceLeDiff, Int.reduceLE, Int.reduceLT, Int.reducePow, Int.reduceNeg, Nat.reduceAdd, Nat.reduceMul, Nat.reducePow, Tryd.underlying34, g0, g3, g4]
        refine ⟨ad, ha, _, hld _ (Ext.refl _), ?_⟩
        try simp only [go_sem, opsV, undef, binV_int, binV_eqB, binV_neB, pbin_int, pbin_eqB, pbin_neB, intV, arith, unV_not, unV_neg, Nat.reduceBEq, Nat.reduceEqDiff, ↓reduceIte, reduceCtorEq, Int.reduceToNat, Nat.reduceLeDiff, Int.reduceLE, Int.reduceLT, Int.reducePow, Int.reduceNeg, Nat.reduceAdd, Nat.reduceMul, Nat.reducePow, Tryd.underlying34, g0, g3, g4]
        refine hK3 _ _ ?_
        clear hK3
        refine vc_block ?_
        refine r_Zeros_l1 (T := tz n) (by omega) (fun e g3 => ?_) _ (32 * k) (xs.getD k 0) hx hxl htz.symm ?_ ?_
        · simp only [↓reduceIte]
          refine hK2 _ _ ?_
          repeat (first
            | (with_reducible refine vc_seq fun K hK => ?_)
            | (with_reducible refine vc_reg ?_)
            | (with_reducible refine vc_skip ?_)
            | (with_reducible refine vc_block ?_)
            | (with_reducible refine vc_scope ?_)
            | (with_reducible refine vc_label ?_)
            | (with_reducible refine vc_condT ?_ ?_; · simp only [go_sem, opsV, undef, binV_int, binV_eqB, binV_neB, pbin_int, pbin_eqB, pbin_neB, intV, arith, unV_not, unV_neg, Nat.reduceBEq, Nat.reduceEqDiff, ↓reduceIte, reduceCtorEq, Int.reduceToNat, Nat.reduceLeDiff, Int.reduceLE, Int.reduceLT, Int.reducePow, Int.reduceNeg, Nat.reduceAdd, Nat.reduceMul, Nat.reducePow, g3] <;> rfl)
            | (with_reducible refine vc_condF ?_ ?_; · simp only [go_sem, opsV, undef, binV_int, binV_eqB, binV_neB, pbin_int, pbin_eqB, pbin_neB, intV, arith, unV_not, unV_neg, Nat.reduceBEq, Nat.reduceEqDiff, ↓reduceIte, reduceCtorEq, Int.reduceToNat, Nat.reduceLeDiff, Int.reduceLE, Int.reduceLT, Int.reducePow, Int.reduceNeg, Nat.reduceAdd, Nat.reduceMul, Nat.reducePow, g3] <;> rfl)
            | (with_reducible refine vc_exit ?_; simp only [↓reduceIte, Nat.reduceEqDiff])
            | (with_reducible refine vc_ret ?_; simp only [retV, resL, one])
            | (with_reducible refine hK _ _ ?_; clear hK)
            | (clear hK; with_reducible refine hK _ _ ?_; clear hK)
            | (clear hK; clear hK; with_reducible refine hK _ _ ?_; clear hK)
            | (simp only [go_sem, opsV, undef, binV_int, binV_eqB, binV_neB, pbin_int, pbin_eqB, pbin_neB, intV, arith, unV_not, unV_neg, Nat.reduceBEq, Nat.reduceEqDiff, ↓reduceIte, reduceCtorEq, Int.reduceToNat, Nat.reduceLeDiff, Int.reduceLE, Int.reduceLT, Int.reducePow, Int.reduceNeg, Nat.reduceAdd, Nat.reduceMul, Nat.reducePow, g3]))
          exact Ext.refl _
        all_goals try simp only [go_sem, opsV, undef, binV_int, binV_eqB, binV_neB, pbin_int, pbin_eqB, pbin_neB, intV, arith, unV_not, unV_neg, Nat.reduceBEq, Nat.reduceEqDiff, ↓reduceIte, reduceCtorEq, Int.reduceToNat, Nat.reduceLeDiff, Int.reduceLE, Int.reduceLT, Int.reducePow, Int.reduceNeg, Nat.reduceAdd, Nat.reduceMul, Nat.reducePow, Tryd.underlying34, g0, g3, g4]
    · refine vc_exit ?_
      simp only [↓reduceIte]
      exact J _ (fun j hj => hz j (by omega))

theorem h_Words {w : World} {va vb : Value} {xs ys : List Nat} (ha : U64s w.heap va xs) (hb : U64s w.heap vb ys) (hlx : xs.length ≤ 1099511627776) (hly : ys.length ≤ 1099511627776) :
    FC Tryd.prog 41 #[va, vb] w fun r w' => Ext w w' ∧ r = .bool (decide (xs = ys)) := by
  refine FC.body (l := [va, vb]) (rs := [.tmp 4]) mixed Tryd.func41 rfl (by kernel_rfl) (by kernel_rfl) (Nat.le_of_ble_eq_true rfl) rfl ?_
  with_reducible refine vc_seq fun K hK => ?_
  with_reducible refine vc_reg ?_
  simp only [go_sem, opsV, undef, binV_int, binV_eqB, binV_neB, pbin_int, pbin_eqB, pbin_neB, intV, arith, unV_not, unV_neg, Nat.reduceBEq, Nat.reduceEqDiff, ↓reduceIte, reduceCtorEq, Int.reduceToNat, Nat.reduceLeDiff, Int.reduceLE, Int.reduceLT, Int.reducePow, Int.reduceNeg, Nat.reduceAdd, Nat.reduceMul, Nat.reducePow, Tryd.underlying22]
  refine hK _ _ ?_
  clear hK K
  with_reducible refine vc_seq fun K hK => ?_
  with_reducible refine vc_seq fun K hK => ?_
  refine vc_reg ?_
  try simp only [go_sem, opsV, undef, binV_int, binV_eqB, binV_neB, pbin_int, pbin_eqB, pbin_neB, intV, arith, unV_not, unV_neg, Nat.reduceBEq, Nat.reduceEqDiff, ↓reduceIte, reduceCtorEq, Int.reduceToNat, Nat.reduceLeDiff, Int.reduceLE, Int.reduceLT, Int.reducePow, Int.reduceNeg, Nat.reduceAdd, Nat.reduceMul, Nat.reducePow, Tryd.underlying22]
  refine ⟨_, ha.len, _, hb.len, ?_⟩
  try simp only [go_sem, opsV, undef, binV_int, binV_eqB, binV_neB, pbin_int, pbin_eqB, pbin_neB, intV, arith, unV_not, unV_neg, Nat.reduceBEq, Nat.reduceEqDiff, ↓reduceIte, reduceCtorEq, Int.reduceToNat, Nat.reduceLeDiff, Int.reduceLE, Int.reduceLT, Int.reducePow, Int.reduceNeg, Nat.reduceAdd, Nat.reduceMul, Nat.reducePow, Tryd.underlying22]
  refine hK _ _ ?_
  clear hK K
  refine vc_condD (by simp only [go_sem, opsV, undef, binV_int, binV_eqB, binV_neB, pbin_int, pbin_eqB, pbin_neB, intV, arith, unV_not, unV_neg, Nat.reduceBEq, Nat.reduceEqDiff, ↓reduceIte, reduceCtorEq, Int.reduceToNat, Nat.reduceLeDiff, Int.reduceLE, Int.reduceLT, Int.reducePow, Int.reduceNeg, Nat.reduceAdd, Nat.reduceMul, Nat.reducePow, Tryd.underlying22] <;> rfl) (fun ht => ?_) (fun ht => ?_)
  · repeat (first
      | (with_reducible refine vc_seq fun K hK => ?_)
      | (with_reducible refine vc_reg ?_)
      | (with_reducible refine vc_skip ?_)
      | (with_reducible refine vc_block ?_)
      | (with_reducible refine vc_scope ?_)
      | (with_reducible refine vc_label ?_)
      | (with_reducible refine vc_condT ?_ ?_; · simp only [go_sem, opsV, undef, binV_int, binV_eqB, binV_neB, pbin_int, pbin_eqB, pbin_neB, intV, arith, unV_not, unV_neg, Nat.reduceBEq, Nat.reduceEqDiff, ↓reduceIte, reduceCtorEq, Int.reduceToNat, Nat.reduceLeDiff, Int.reduceLE, Int.reduceLT, Int.reducePow, Int.reduceNeg, Nat.reduceAdd, Nat.reduceMul, Nat.reducePow, Tryd.underlying22] <;> rfl)
      | (with_reducible refine vc_condF ?_ ?_; · simp only [go_sem, opsV, undef, binV_int, binV_eqB, binV_neB, pbin_int, pbin_eqB, pbin_neB, intV, arith, unV_not, unV_neg, Nat.reduceBEq, Nat.reduceEqDiff, ↓reduceIte, reduceCtorEq, Int.reduceToNat, Nat.reduceLeDiff, Int.reduceLE, Int.reduceLT, Int.reducePow, Int.reduceNeg, Nat.reduceAdd, Nat.reduceMul, Nat.reducePow, Tryd.underlying22] <;> rfl)
      | (with_reducible refine vc_exit ?_; simp only [↓reduceIte, Nat.reduceEqDiff])
      | (with_reducible refine vc_ret ?_; simp only [retV, resL, one])
      | (with_reducible refine hK _ _ ?_; clear hK)
      | (clear hK; with_reducible refine hK _ _ ?_; clear hK)
      | (clear hK; clear hK; with_reducible refine hK _ _ ?_; clear hK)
      | (simp only [go_sem, opsV, undef, binV_int, binV_eqB, binV_neB, pbin_int, pbin_eqB, pbin_neB, intV, arith, unV_not, unV_neg, Nat.reduceBEq, Nat.reduceEqDiff, ↓reduceIte, reduceCtorEq, Int.reduceToNat, Nat.reduceLeDiff, Int.reduceLE, Int.reduceLT, Int.reducePow, Int.reduceNeg, Nat.reduceAdd, Nat.reduceMul, Nat.reducePow, Tryd.underlying22]))
    refine ⟨Ext.refl _, ?_⟩
    have : xs ≠ ys := fun h => ht (by rw [h])
    simp [this]
  have hlen : xs.length = ys.length := by omega
  refine vc_skip ?_
  refine hK _ _ ?_
  clear hK K
  with_reducible refine vc_seq fun K hK => ?_
  with_reducible refine vc_seq fun K hK => ?_
  with_reducible refine vc_reg ?_
  simp only [go_sem, opsV, undef, binV_int, binV_eqB, binV_neB, pbin_int, pbin_eqB, pbin_neB, intV, arith, unV_not, unV_neg, Nat.reduceBEq, Nat.reduceEqDiff, ↓reduceIte, reduceCtorEq, Int.reduceToNat, Nat.reduceLeDiff, Int.reduceLE, Int.reduceLT, Int.reducePow, Int.reduceNeg, Nat.reduceAdd, Nat.reduceMul, Nat.reducePow, Tryd.underlying22]
  refine hK _ _ ?_
  clear hK K
  have J : ∀ (e : Env) (w' : World), Ext w w' → (∀ j, j < xs.length → xs.getD j 0 = ys.getD j 0) → K e w' := by
    rintro e w' hE hz
    repeat (first
      | (with_reducible refine vc_seq fun K hK => ?_)
      | (with_reducible refine vc_reg ?_)
      | (with_reducible refine vc_skip ?_)
      | (with_reducible refine vc_block ?_)
      | (with_reducible refine vc_scope ?_)
      | (with_reducible refine vc_label ?_)
      | (with_reducible refine vc_condT ?_ ?_; · simp only [go_sem, opsV, undef, binV_int, binV_eqB, binV_neB, pbin_int, pbin_eqB, pbin_neB, intV, arith, unV_not, unV_neg, Nat.reduceBEq, Nat.reduceEqDiff, ↓reduceIte, reduceCtorEq, Int.reduceToNat, Nat.reduceLeDiff, Int.reduceLE, Int.reduceLT, Int.reducePow, Int.reduceNeg, Nat.reduceAdd, Nat.reduceMul, Nat.reducePow, Tryd.underlying22] <;> rfl)
      | (with_reducible refine vc_condF ?_ ?_; · simp only [go_sem, opsV, undef, binV_int, binV_eqB, binV_neB, pbin_int, pbin_eqB, pbin_neB, intV, arith, unV_not, unV_neg, Nat.reduceBEq, Nat.reduceEqDiff, ↓reduceIte, reduceCtorEq, Int.reduceToNat, Nat.reduceLeDiff, Int.reduceLE, Int.reduceLT, Int.reducePow, Int.reduceNeg, Nat.reduceAdd, Nat.reduceMul, Nat.reducePow, Tryd.underlying22] <;> rfl)
      | (with_reducible refine vc_exit ?_; simp only [↓reduceIte, Nat.reduceEqDiff])
      | (with_reducible refine vc_ret ?_; simp only [retV, resL, one])
      | (with_reducible refine hK _ _ ?_; clear hK)
      | (clear hK; with_reducible refine hK _ _ ?_; clear hK)
      | (clear hK; clear hK; with_reducible refine hK _ _ ?_; clear hK)
      | (simp only [go_sem, opsV, undef, binV_int, binV_eqB, binV_neB, pbin_int, pbin_eqB, pbin_neB, intV, arith, unV_not, unV_neg, Nat.reduceBEq, Nat.reduceEqDiff, ↓reduceIte, reduceCtorEq, Int.reduceToNat, Nat.reduceLeDiff, Int.reduceLE, Int.reduceLT, Int.reducePow, Int.reduceNeg, Nat.reduceAdd, Nat.reduceMul, Nat.reducePow, Tryd.underlying22]))
    have : xs = ys := list_ext_getD hlen fun j => by
      by_cases hj : j < xs.length
      · exact hz j hj
      · simp [List.getD, List.getElem?_eq_none (Nat.le_of_not_lt hj), List.getElem?_eq_none (hlen ▸ Nat.le_of_not_lt hj)]
    exact ⟨hE, by simp [this]⟩
  refine vc_block ?_
  refine vc_loop (fun e w' => Ext w w' ∧ ∃ k : Nat, k ≤ xs.length ∧ e 0 = va ∧ e 1 = vb ∧ e 5 = .int .i64 (k : Int) ∧ ∀ j, j < k → xs.getD j 0 = ys.getD j 0) (fun e _ => xs.length - (intOf (e 5)).toNat) ?_ ?_
  · refine ⟨Ext.refl _, 0, Nat.zero_le _, ?_⟩
    try simp only [go_sem, opsV, undef, binV_int, binV_eqB, binV_neB, pbin_int, pbin_eqB, pbin_neB, intV, arith, unV_not, unV_neg, Nat.reduceBEq, Nat.reduceEqDiff, ↓reduceIte, reduceCtorEq, Int.reduceToNat, Nat.reduceLeDiff, Int.reduceLE, Int.reduceLT, Int.reducePow, Int.reduceNeg, Nat.reduceAdd, Nat.reduceMul, Nat.reducePow, true_and]
    exact ⟨rfl, fun j hj => absurd hj (Nat.not_lt_zero j)⟩
  · rintro e w' ⟨hE, k, hk, g0, g1, g5, hz⟩
    have hmz : (intOf (e 5)).toNat = k := by rw [g5]; rfl
    refine vc_seq fun K1 hK1 => ?_
    refine vc_seq fun K2 hK2 => ?_
    refine vc_reg ?_
    try simp only [go_sem, opsV, undef, binV_int, binV_eqB, binV_neB, pbin_int, pbin_eqB, pbin_neB, intV, arith, unV_not, unV_neg, Nat.reduceBEq, Nat.reduceEqDiff, ↓reduceIte, reduceCtorEq, Int.reduceToNat, Nat.reduceLeDiff, Int.reduceLE, Int.reduceLT, Int.reducePow, Int.reduceNeg, Nat.reduceAdd, Nat.reduceMul, Nat.reducePow, Tryd.underlying22, g0, g1, g5]
    refine ⟨_, (ha.up hE).len, ?_⟩
    try simp only [go_sem, opsV, undef, binV_int, binV_eqB, binV_neB, pbin_int, pbin_eqB, pbin_neB, intV, arith, unV_not, unV_neg, Nat.reduceBEq, Nat.reduceEqDiff, ↓reduceIte, reduceCtorEq, Int.reduceToNat, Nat.reduceLeDiff, Int.reduceLE, Int.reduceLT, Int.reducePow, Int.reduceNeg, Nat.reduceAdd, Nat.reduceMul, Nat.reducePow, Tryd.underlying22, g0, g1, g5]
    refine hK2 _ _ ?_
    clear hK2
    refine vc_condD (by simp only [go_sem, opsV, undef, binV_int, binV_eqB, binV_neB, pbin_int, pbin_eqB, pbin_neB, intV, arith, unV_not, unV_neg, Nat.reduceBEq, Nat.reduceEqDiff, ↓reduceIte, reduceCtorEq, Int.reduceToNat, Nat.reduceLeDiff, Int.reduceLE, Int.reduceLT, Int.reducePow, Int.reduceNeg, Nat.reduceAdd, Nat.reduceMul, Nat.reducePow, Tryd.underlying22, g0, g1, g5] <;> rfl) (fun ht => ?_) (fun ht => ?_)
    · refine vc_skip ?_
      refine hK1 _ _ ?_
      clear hK1
      refine vc_seq fun K1 hK1 => ?_
      refine vc_block ?_
      refine vc_seq fun K2 hK2 => ?_
      obtain ⟨ad, hia, hla⟩ := (ha.up hE).get (k := .i64) (i := k) ht
      obtain ⟨bd, hib, hlb⟩ := (hb.up hE).get (k := .i64) (i := k) (by omega)
      refine vc_draw [(0, 0), (1, 0), (2, 0), (3, 1), (4, 0), (5, 0), (6, 0), (7, 1), (8, 0)] (by kernel_rfl) ?_
      try simp only [go_sem, opsV, undef, binV_int, binV_eqB, binV_neB, pbin_int, pbin_eqB, pbin_neB, intV, arith, unV_not, unV_neg, Nat.reduceBEq, Nat.reduceEqDiff, ↓reduceIte, reduceCtorEq, Int.reduceToNat, Nat.reduceLeDiff, Int.reduceLE, Int.reduceLT, Int.reducePow, Int.reduceNeg, Nat.reduceAdd, Nat.reduceMul, Nat.reducePow, Tryd.underlying22, g0, g1, g5]
      refine ⟨ad, hia, _, hla _ (ext_drew _), bd, hib, _, hlb _ (ext_drew _), ?_⟩
      try simp only [go_sem, opsV, undef, binV_int, binV_eqB, binV_neB, pbin_int, pbin_eqB, pbin_neB, intV, arith, unV_not, unV_neg, Nat.reduceBEq, Nat.reduceEqDiff, ↓reduceIte, reduceCtorEq, Int.reduceToNat, Nat.reduceLeDiff, Int.reduceLE, Int.reduceLT, Int.reducePow, Int.reduceNeg, Nat.reduceAdd, Nat.reduceMul, Nat.reducePow, Tryd.underlying22, g0, g1, g5]
      refine hK2 _ _ ?_
      clear hK2
      refine vc_condD (by simp only [go_sem, opsV, undef, binV_int, binV_eqB, binV_neB, pbin_int, pbin_eqB, pbin_neB, intV, arith, unV_not, unV_neg, Nat.reduceBEq, Nat.reduceEqDiff, ↓reduceIte, reduceCtorEq, Int.reduceToNat, Nat.reduceLeDiff, Int.reduceLE, Int.reduceLT, Int.reducePow, Int.reduceNeg, Nat.reduceAdd, Nat.reduceMul, Nat.reducePow, Tryd.underlying22, g0, g1, g5] <;> rfl) (fun hx => ?_) (fun hx => ?_)
      · repeat (first
          | (with_reducible refine vc_seq fun K hK => ?_)
          | (with_reducible refine vc_reg ?_)
          | (with_reducible refine vc_skip ?_)
          | (with_reducible refine vc_block ?_)
          | (with_reducible refine vc_scope ?_)
          | (with_reducible refine vc_label ?_)
          | (with_reducible refine vc_condT ?_ ?_; · simp only [go_sem, opsV, undef, binV_int, binV_eqB, binV_neB, pbin_int, pbin_eqB, pbin_neB, intV, arith, unV_not, unV_neg, Nat.reduceBEq, Nat.reduceEqDiff, ↓reduceIte, reduceCtorEq, Int.reduceToNat, Nat.reduceLeDiff, Int.reduceLE, Int.reduceLT, Int.reducePow, Int.reduceNeg, Nat.reduceAdd, Nat.reduceMul, Nat.reducePow, Tryd.underlying22, g0, g1, g5] <;> rfl)
          | (with_reducible refine vc_condF ?_ ?_; · simp only [go_sem, opsV, undef, binV_int, binV_eqB, binV_neB, pbin_int, pbin_eqB, pbin_neB, intV, arith, unV_not, unV_neg, Nat.reduceBEq, Nat.reduceEqDiff, ↓reduceIte, reduceCtorEq, Int.reduceToNat, Nat.reduceLeDiff, Int.reduceLE, Int.reduceLT, Int.reducePow, Int.reduceNeg, Nat.reduceAdd, Nat.reduceMul, Nat.reducePow, Tryd.underlying22, g0, g1, g5] <;> rfl)
          | (with_reducible refine vc_exit ?_; simp only [↓reduceIte, Nat.reduceEqDiff])
          | (with_reducible refine vc_ret ?_; simp only [retV, resL, one])
          | (with_reducible refine hK _ _ ?_; clear hK)
          | (clear hK; with_reducible refine hK _ _ ?_; clear hK)
          | (clear hK; clear hK; with_reducible refine hK _ _ ?_; clear hK)
          | (simp only [go_sem, opsV, undef, binV_int, binV_eqB, binV_neB, pbin_int, pbin_eqB, pbin_neB, intV, arith, unV_not, unV_neg, Nat.reduceBEq, Nat.reduceEqDiff, ↓reduceIte, reduceCtorEq, Int.reduceToNat, Nat.reduceLeDiff, Int.reduceLE, Int.reduceLT, Int.reducePow, Int.reduceNeg, Nat.reduceAdd, Nat.reduceMul, Nat.reducePow, Tryd.underlying22, g0, g1, g5]))
        refine ⟨hE.drew', ?_⟩
        have : xs ≠ ys := fun h => hx (by rw [h])
        simp [this]
      · refine vc_skip ?_
        refine hK1 _ _ ?_
        refine vc_reg ?_
        try simp only [go_sem, opsV, undef, binV_int, binV_eqB, binV_neB, pbin_int, pbin_eqB, pbin_neB, intV, arith, unV_not, unV_neg, Nat.reduceBEq, Nat.reduceEqDiff, ↓reduceIte, reduceCtorEq, Int.reduceToNat, Nat.reduceLeDiff, Int.reduceLE, Int.reduceLT, Int.reducePow, Int.reduceNeg, Nat.reduceAdd, Nat.reduceMul, Nat.reducePow, Tryd.underlying22, g0, g1, g5]
        refine ⟨(by unfold R64; omega), ⟨hE.drew', k + 1, by omega, ?_⟩, ?_⟩
        · try simp only [go_sem, opsV, undef, binV_int, binV_eqB, binV_neB, pbin_int, pbin_eqB, pbin_neB, intV, arith, unV_not, unV_neg, Nat.reduceBEq, Nat.reduceEqDiff, ↓reduceIte, reduceCtorEq, Int.reduceToNat, Nat.reduceLeDiff, Int.reduceLE, Int.reduceLT, Int.reducePow, Int.reduceNeg, Nat.reduceAdd, Nat.reduceMul, Nat.reducePow, Tryd.underlying22, g0, g1, g5]
          refine fun j hj => ?_
          rcases Nat.lt_or_ge j k with h' | h'
          · exact hz j h'
          · obtain rfl : j = k := by omega
            exact Decidable.not_not.1 hx
        · (try rw [hmz])
          simp only [intOf]; omega
    · refine vc_exit ?_
      simp only [↓reduceIte]
      exact J _ _ hE (fun j hj => hz j (by omega))

end Go.V
